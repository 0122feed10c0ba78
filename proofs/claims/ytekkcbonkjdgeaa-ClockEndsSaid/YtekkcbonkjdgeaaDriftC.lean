/- Contracts of package sum's reckoning of drift and of its reference's: what each function returns; the world stays. No condition but that the arguments are int64 (for the reference's: that they are no bad ones). -/
import Derived.Test.YtekkcbonkjdgeaaProg
import Derived.Test.YtekkcbonkjdgeaaSumNum
import Derived.Test.YtekkcbonkjdgeaaDriftNum
import Derived.WalkKit
import Derived.WalkSpells
import Derived.Lib.Hide
import Derived.WalkLawsBesides
import Derived.Deep.QuietTactic
import Derived.BigQuiet
namespace Go.Proofs.Ytekkcbonkjdgeaa
open Go.RowKit

def Two (v e : Int) (w : World) (x : Ending) (w' : World) : Prop := x = .returned (.tuple #[.int .i64 v, .int .i64 e]) ∧ w = w'
theorem two_mk {v e v' e' : Int} {w : World} (h1 : v' = v) (h2 : e' = e) : Two v e w (.returned (.tuple #[.int .i64 v', .int .i64 e'])) w := by subst h1; subst h2; exact ⟨rfl, rfl⟩
theorem ret_int' {k : IntKind} {a b : Int} (h : a = b) : Ending.returned (.int k a) = .returned (.int k b) := by rw [h]


theorem ret_bool' {a b : Bool} (h : a = b) : Ending.returned (.bool a) = .returned (.bool b) := by rw [h]
theorem badB_ways {t r : Int} (h : 0 ≤ t) (h2 : t ≤ 1099511627776) (h3 : 0 ≤ r) : (decide (t < 0) || decide (1099511627776 < t) || decide (r < 0) || decide (500000 < r)) = badB t r := by
  unfold badB; rw [Bool.eq_iff_iff]; simp; omega
theorem badB_yes {t r : Int} (h : t < 0 ∨ 1099511627776 < t ∨ r < 0 ∨ 500000 < r) : badB t r = true := by simp [badB, h]
theorem badB_last {t r : Int} (h : 0 ≤ t) (h2 : t ≤ 1099511627776) (h3 : 0 ≤ r) : decide (500000 < r) = badB t r := by
  unfold badB; rw [Bool.eq_iff_iff]; simp; omega

set_option maxHeartbeats 400000 in
theorem sumBad (t r : Int) (w : World) (ht : I64 t) (hr : I64 r) :
    Calls Try.prog 59 #[.int .i64 t, .int .i64 r] w fun e w' => e = .returned (.bool (badB t r)) ∧ w = w' := by
  obtain ⟨t1, t2⟩ := ht
  obtain ⟨r1, r2⟩ := hr
  go_enter Try.func59, Try.ntmps59
  go_wp2
  all_goals
    go_ret
    first
      | exact ⟨ret_bool' (badB_yes (by omega)).symm, rfl⟩
      | exact ⟨ret_bool' (badB_ways (by omega) (by omega) (by omega)), rfl⟩

set_option maxHeartbeats 400000 in
theorem refBad (t r : Int) (w : World) (ht : I64 t) (hr : I64 r) :
    Calls Try.prog 30 #[.int .i64 t, .int .i64 r] w fun e w' => e = .returned (.bool (badB t r)) ∧ w = w' := by
  obtain ⟨t1, t2⟩ := ht
  obtain ⟨r1, r2⟩ := hr
  go_enter Try.func30, Try.ntmps30
  go_wp2
  all_goals
    go_ret
    first
      | exact ⟨ret_bool' (badB_yes (by omega)).symm, rfl⟩
      | exact ⟨ret_bool' (badB_ways (by omega) (by omega) (by omega)), rfl⟩

set_option maxHeartbeats 400000 in
theorem sumMost (t r : Int) (w : World) (hg : Good t r) :
    Calls Try.prog 50 #[.int .i64 t, .int .i64 r] w (Two (mostV t r) 0 w) := by
  have hb := good_iff.2 hg
  obtain ⟨p1, p2⟩ := prod_bd hg
  have c := fun w => sumBad t r w ⟨by unfold Good at hg; omega, by unfold Good at hg; omega⟩ ⟨by unfold Good at hg; omega, by unfold Good at hg; omega⟩
  have C := Lib.hid c
  clear c
  obtain ⟨h1, h2, h3, h4⟩ := hg
  go_enter Try.func50, Try.ntmps50
  go_wp2_with fail
  refine (C.out _).mono ?_
  rintro e w' ⟨rfl, rfl⟩
  go_wp2_with fail
  go_ret2
  exact two_mk rfl rfl

set_option maxHeartbeats 400000 in
theorem sumMost_bad (t r : Int) (w : World) (ht : I64 t) (hr : I64 r) (hb : badB t r = true) :
    Calls Try.prog 50 #[.int .i64 t, .int .i64 r] w (Two 0 1 w) := by
  have c := fun w => sumBad t r w ht hr
  have C := Lib.hid c
  clear c ht hr
  go_enter Try.func50, Try.ntmps50
  go_wp2_with fail
  refine (C.out _).mono ?_
  rintro e w' ⟨rfl, rfl⟩
  go_wp2_with fail
  go_ret2
  exact two_mk rfl rfl

set_option maxHeartbeats 400000 in
theorem sumLeast (t r : Int) (w : World) (hg : Good t r) :
    Calls Try.prog 49 #[.int .i64 t, .int .i64 r] w (Two (leastV t r) 0 w) := by
  have hb := good_iff.2 hg
  obtain ⟨p1, p2⟩ := prod_bd hg
  have c := fun w => sumBad t r w ⟨by unfold Good at hg; omega, by unfold Good at hg; omega⟩ ⟨by unfold Good at hg; omega, by unfold Good at hg; omega⟩
  have C := Lib.hid c
  clear c
  obtain ⟨h1, h2, h3, h4⟩ := hg
  go_enter Try.func49, Try.ntmps49
  go_wp2_with fail
  refine (C.out _).mono ?_
  rintro e w' ⟨rfl, rfl⟩
  go_wp2_with fail
  go_ret2
  exact two_mk rfl rfl

set_option maxHeartbeats 400000 in
theorem sumLeast_bad (t r : Int) (w : World) (ht : I64 t) (hr : I64 r) (hb : badB t r = true) :
    Calls Try.prog 49 #[.int .i64 t, .int .i64 r] w (Two 0 1 w) := by
  have c := fun w => sumBad t r w ht hr
  have C := Lib.hid c
  clear c ht hr
  go_enter Try.func49, Try.ntmps49
  go_wp2_with fail
  refine (C.out _).mono ?_
  rintro e w' ⟨rfl, rfl⟩
  go_wp2_with fail
  go_ret2
  exact two_mk rfl rfl

set_option maxHeartbeats 400000 in
theorem refRatio (t a b : Int) (w : World) (h1 : 0 ≤ t) (h2 : t ≤ 1099511627776) (h3 : 1000000 ≤ a) (h4 : a ≤ 1500000) (h5 : 1000000 ≤ b) (h6 : b ≤ 1500000) :
    Calls Try.prog 60 #[.int .i64 t, .int .i64 a, .int .i64 b] w fun e w' => e = .returned (.int .i64 (t * a / b)) ∧ ∃ n, w' = w.drewN n := by
  have q0 : 0 ≤ t / b := Int.ediv_nonneg h1 (by omega)
  have q1 : t / b ≤ 1099512 := by
    have : t < 1099513 * b := by omega
    have := Int.ediv_lt_of_lt_mul (by omega : (0 : Int) < b) this
    omega
  have r0 : 0 ≤ t % b := Int.emod_nonneg _ (by omega)
  have r1 : t % b < b := Int.emod_lt_of_pos _ (by omega)
  have m0 : 0 ≤ t / b * a := Int.mul_nonneg q0 (by omega)
  have m1 : t / b * a ≤ 1649268000000 := by
    have := Int.mul_le_mul q1 h4 (by omega) (by omega); omega
  have n0 : 0 ≤ t % b * a := Int.mul_nonneg r0 (by omega)
  have n1 : t % b * a ≤ 2250000000000 := by
    have := Int.mul_le_mul (show t % b ≤ 1500000 by omega) h4 (by omega) (by omega); omega
  have d0 : 0 ≤ t % b * a / b := Int.ediv_nonneg n0 (by omega)
  have d1 : t % b * a / b ≤ 2250000000000 := by
    have := Int.ediv_le_self b n0; omega
  have E := Lib.hid (ratio_eq t a b (by omega))
  have hb0 : (b == 0) = false := by simp; omega
  go_enter Try.func60, Try.ntmps60
  go_wp2_with fail
  go_quiet (fail)
  go_wp2_with fail
  go_ret
  exact ⟨ret_int' E.out, _, rfl⟩

set_option maxHeartbeats 400000 in
theorem refMost (t r : Int) (w : World) (hg : Good t r) :
    Calls Try.prog 63 #[.int .i64 t, .int .i64 r] w fun e w' => e = .returned (.int .i64 (mostV t r)) ∧ ∃ n, w' = w.drewN n := by
  obtain ⟨h1, h2, h3, h4⟩ := hg
  have C := Lib.hid (fun w => refRatio t (1000000 + r) 1000000 w h1 h2 (by omega) (by omega) (by omega) (by omega))
  go_enter Try.func63, Try.ntmps63
  go_wp2_with fail
  refine (C.out _).mono ?_
  rintro e w' ⟨rfl, n, rfl⟩
  go_wp2_with fail
  go_ret
  exact ⟨ret_int' rfl, _, rfl⟩

set_option maxHeartbeats 400000 in
theorem refShrink (t r : Int) (w : World) (hg : Good t r) :
    Calls Try.prog 52 #[.int .i64 t, .int .i64 r] w fun e w' => e = .returned (.int .i64 (shrinkV t r)) ∧ ∃ n, w' = w.drewN n := by
  obtain ⟨h1, h2, h3, h4⟩ := hg
  have C := Lib.hid (fun w => refRatio t 1000000 (1000000 + r) w h1 h2 (by omega) (by omega) (by omega) (by omega))
  go_enter Try.func52, Try.ntmps52
  go_wp2_with fail
  refine (C.out _).mono ?_
  rintro e w' ⟨rfl, n, rfl⟩
  go_wp2_with fail
  go_ret
  exact ⟨ret_int' rfl, _, rfl⟩

set_option maxHeartbeats 400000 in
theorem refLeast (t r : Int) (w : World) (hg : Good t r) :
    Calls Try.prog 62 #[.int .i64 t, .int .i64 r] w fun e w' => e = .returned (.int .i64 (leastV t r)) ∧ ∃ n, w' = w.drewN n := by
  have C := Lib.hid (fun w => refShrink t r w hg)
  have E := Lib.hid (least_eq t r hg)
  obtain ⟨s1, s2⟩ := shrink_bd hg
  obtain ⟨p1, p2⟩ := prod_bd (shrink_good hg)
  obtain ⟨h1, h2, h3, h4⟩ := hg
  generalize shrinkV t r = s at *
  go_enter Try.func62, Try.ntmps62
  go_wp2_with fail
  refine (C.out _).mono ?_
  rintro e w' ⟨rfl, n, rfl⟩
  go_wp2_with fail
  all_goals
    go_ret
    first
      | exact ⟨ret_int' (by rw [E.out, if_pos (by assumption)]), _, rfl⟩
      | exact ⟨ret_int' (by rw [E.out, if_neg (by omega)]), _, rfl⟩

set_option maxHeartbeats 400000 in
theorem refGuard (t r : Int) (w : World) (hg : Good t r) :
    Calls Try.prog 31 #[.int .i64 t, .int .i64 r] w fun e w' => e = .returned (.int .i64 (guardV t r)) ∧ ∃ n, w' = w.drewN n := by
  have C := Lib.hid (fun w => refShrink t r w hg)
  have C2 := Lib.hid (fun w => refShrink (shrinkV t r) r w (shrink_good hg))
  clear hg
  go_enter Try.func31, Try.ntmps31
  go_wp2_with fail
  refine (C.out _).mono ?_
  rintro e w' ⟨rfl, n, rfl⟩
  go_wp2_with fail
  refine (C2.out _).mono ?_
  rintro e w' ⟨rfl, n, rfl⟩
  go_wp2_with fail
  go_ret
  exact ⟨ret_int' rfl, _, rfl⟩
end Go.Proofs.Ytekkcbonkjdgeaa
