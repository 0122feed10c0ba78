/- The walks of the laws SumDrift, SumTrust, SumOrder, SumParts. -/
import Derived.Test.YtogcdbodlomgeaaWSumA
import Derived.Test.YtogcdbodlomgeaaDriftLaws
namespace Go.Proofs.Ytogcdbodlomgeaa
open Go.RowKit

theorem i64_good {t r : Int} (h : Good t r) : I64 t ∧ I64 r := by unfold Good I64 at *; omega

set_option maxRecDepth 100000 in
set_option maxHeartbeats 400000 in
theorem walkSumDrift (t rho : Int) (ht : I64 t) (hrho : I64 rho) (w : World) :
    Calls Try.prog 9 #[.int .i64 t, .int .i64 rho] w (Yes w) := by
  by_cases hb : badB t rho = true
  · have C1 := Lib.hid (fun w => sumMost_bad t rho w ht hrho hb)
    have C2 := Lib.hid (fun w => sumLeast_bad t rho w ht hrho hb)
    have C3 := Lib.hid (fun w => sumShrink_bad t rho w ht hrho hb)
    have C4 := Lib.hid (fun w => sumGuard_bad t rho w ht hrho hb)
    have C5 := Lib.hid (fun w => refBad t rho w ht hrho)
    clear ht hrho
    go_enter Try.func9, Try.ntmps9
    go_wp2_with fail
    refine (C1.out _).mono ?_
    rintro e w' ⟨rfl, rfl⟩
    go_wp2_with fail
    refine (C2.out _).mono ?_
    rintro e w' ⟨rfl, rfl⟩
    go_wp2_with fail
    refine (C3.out _).mono ?_
    rintro e w' ⟨rfl, rfl⟩
    go_wp2_with fail
    refine (C4.out _).mono ?_
    rintro e w' ⟨rfl, rfl⟩
    go_wp2_with fail
    refine (sumAnswers _).mono ?_
    rintro e w' ⟨rfl, rfl⟩
    go_wp2_with fail
    refine (C5.out _).mono ?_
    rintro e w' ⟨rfl, rfl⟩
    go_wp2_with fail
    go_ret
    exact ⟨rfl, by repeat (first | exact Below.refl _ _ | refine below_drewN ?_ _)⟩
  · have hb : badB t rho = false := by simpa using hb
    have hg := good_iff.1 hb
    have C1 := Lib.hid (fun w => sumMost t rho w hg)
    have C2 := Lib.hid (fun w => sumLeast t rho w hg)
    have C3 := Lib.hid (fun w => sumShrink t rho w hg)
    have C4 := Lib.hid (fun w => sumGuard t rho w hg)
    have C5 := Lib.hid (fun w => refBad t rho w ht hrho)
    have C6 := Lib.hid (fun w => refMost t rho w hg)
    have C7 := Lib.hid (fun w => refLeast t rho w hg)
    have C8 := Lib.hid (fun w => refShrink t rho w hg)
    have C9 := Lib.hid (fun w => refGuard t rho w hg)
    clear ht hrho hg
    generalize mostV t rho = x0 at *
    generalize leastV t rho = x1 at *
    generalize shrinkV t rho = x2 at *
    generalize guardV t rho = x3 at *
    go_enter Try.func9, Try.ntmps9
    go_wp2_with fail
    refine (C1.out _).mono ?_
    rintro e w' ⟨rfl, rfl⟩
    go_wp2_with fail
    refine (C2.out _).mono ?_
    rintro e w' ⟨rfl, rfl⟩
    go_wp2_with fail
    refine (C3.out _).mono ?_
    rintro e w' ⟨rfl, rfl⟩
    go_wp2_with fail
    refine (C4.out _).mono ?_
    rintro e w' ⟨rfl, rfl⟩
    go_wp2_with fail
    refine (sumAnswers _).mono ?_
    rintro e w' ⟨rfl, rfl⟩
    go_wp2_with fail
    refine (C5.out _).mono ?_
    rintro e w' ⟨rfl, rfl⟩
    go_wp2_with fail
    refine (C6.out _).mono ?_
    rintro e w' ⟨rfl, n, rfl⟩
    go_wp2_with fail
    refine (C7.out _).mono ?_
    rintro e w' ⟨rfl, n, rfl⟩
    go_wp2_with fail
    refine (C8.out _).mono ?_
    rintro e w' ⟨rfl, n, rfl⟩
    go_wp2_with fail
    refine (C9.out _).mono ?_
    rintro e w' ⟨rfl, n, rfl⟩
    go_wp2_with fail
    go_ret
    exact ⟨rfl, by repeat (first | exact Below.refl _ _ | refine below_drewN ?_ _)⟩

set_option maxRecDepth 100000 in
set_option maxHeartbeats 400000 in
theorem walkSumTrust (t rho : Int) (ht : I64 t) (hrho : I64 rho) (w : World) :
    Calls Try.prog 7 #[.int .i64 t, .int .i64 rho] w (Yes w) := by
  by_cases hb : badB t rho = true
  · have C1 := Lib.hid (fun w => sumGuard_bad t rho w ht hrho hb)
    have C5 := Lib.hid (fun w => refBad t rho w ht hrho)
    clear ht hrho
    go_enter Try.func7, Try.ntmps7
    go_wp2_with fail
    refine (C1.out _).mono ?_
    rintro e w' ⟨rfl, rfl⟩
    go_wp2_with fail
    refine (sumAnswers _).mono ?_
    rintro e w' ⟨rfl, rfl⟩
    go_wp2_with fail
    refine (sumAnswers _).mono ?_
    rintro e w' ⟨rfl, rfl⟩
    go_wp2_with fail
    refine (C5.out _).mono ?_
    rintro e w' ⟨rfl, rfl⟩
    go_wp2_with fail
    go_ret
    exact ⟨rfl, by repeat (first | exact Below.refl _ _ | refine below_drewN ?_ _)⟩
  · have hb : badB t rho = false := by simpa using hb
    have hg := good_iff.1 hb
    have hs := shrink_good hg
    have hgg := shrink_good hs
    have C1 := Lib.hid (fun w => sumGuard t rho w hg)
    have C2 := Lib.hid (fun w => sumShrink t rho w hg)
    have C3 := Lib.hid (fun w => sumMost (guardV t rho) rho w hgg)
    have C4 := Lib.hid (fun w => sumMost (shrinkV t rho) rho w hs)
    have f0 : 0 ≤ guardV t rho := hgg.1
    have f1 : guardV t rho ≤ 1099511627776 := hgg.2.1
    have f2 : mostV (guardV t rho) rho ≤ shrinkV t rho := most_shrink hg.2.2.1
    have f3 : mostV (shrinkV t rho) rho ≤ t := most_shrink hg.2.2.1
    have f4 : guardV t rho * (1000000 + rho) ≤ shrinkV t rho * 1000000 := shrink_mul hg.2.2.1
    obtain ⟨p1, p2⟩ := prod_bd hgg
    change 0 ≤ guardV t rho * (1000000 + rho) at p1
    change guardV t rho * (1000000 + rho) ≤ _ at p2
    have s1 := hs.1
    have s2 := hs.2.1
    obtain ⟨h1, h2, h3, h4⟩ := hg
    clear ht hrho hs hgg hb
    generalize mostV (guardV t rho) rho = x1 at *
    generalize mostV (shrinkV t rho) rho = x2 at *
    generalize shrinkV t rho = x3 at *
    generalize guardV t rho = x4 at *
    go_enter Try.func7, Try.ntmps7
    go_wp2_with fail
    refine (C1.out _).mono ?_
    rintro e w' ⟨rfl, rfl⟩
    go_wp2_with fail
    refine (sumAnswers _).mono ?_
    rintro e w' ⟨rfl, rfl⟩
    go_wp2_with fail
    refine (C2.out _).mono ?_
    rintro e w' ⟨rfl, rfl⟩
    go_wp2_with fail
    refine (C3.out _).mono ?_
    rintro e w' ⟨rfl, rfl⟩
    go_wp2_with fail
    refine (C4.out _).mono ?_
    rintro e w' ⟨rfl, rfl⟩
    go_wp2_with fail
    go_ret
    exact ⟨rfl, by repeat (first | exact Below.refl _ _ | refine below_drewN ?_ _)⟩

set_option maxRecDepth 100000 in
set_option maxHeartbeats 1000000 in
theorem walkSumOrder (t u rho more : Int) (ht : I64 t) (hu : I64 u) (hrho : I64 rho) (hmore : I64 more) (w : World) :
    Calls Try.prog 10 #[.int .i64 t, .int .i64 u, .int .i64 rho, .int .i64 more] w (Yes w) := by
  by_cases hb : badB t rho = true
  · have CB1 := Lib.hid (fun w => refBad t rho w ht hrho)
    have CB2 := Lib.hid (fun w => refBad u more w hu hmore)
    clear ht hrho hu hmore
    go_enter Try.func10, Try.ntmps10
    go_wp2_with fail
    refine (sumAnswers _).mono ?_
    rintro e w' ⟨rfl, rfl⟩
    go_wp2_with fail
    refine (CB1.out _).mono ?_
    rintro e w' ⟨rfl, rfl⟩
    go_wp2_with fail
    refine (sumAnswers _).mono ?_
    rintro e w' ⟨rfl, rfl⟩
    go_wp2_with fail
    go_ret
    exact ⟨rfl, by repeat (first | exact Below.refl _ _ | refine below_drewN ?_ _)⟩
  · have hb : badB t rho = false := by simpa using hb
    by_cases hc : badB u more = true
    · have CB1 := Lib.hid (fun w => refBad t rho w ht hrho)
      have CB2 := Lib.hid (fun w => refBad u more w hu hmore)
      clear ht hrho hu hmore
      go_enter Try.func10, Try.ntmps10
      go_wp2_with fail
      refine (sumAnswers _).mono ?_
      rintro e w' ⟨rfl, rfl⟩
      go_wp2_with fail
      refine (CB1.out _).mono ?_
      rintro e w' ⟨rfl, rfl⟩
      go_wp2_with fail
      refine (CB2.out _).mono ?_
      rintro e w' ⟨rfl, rfl⟩
      go_wp2_with fail
      refine (sumAnswers _).mono ?_
      rintro e w' ⟨rfl, rfl⟩
      go_wp2_with fail
      go_ret
      exact ⟨rfl, by repeat (first | exact Below.refl _ _ | refine below_drewN ?_ _)⟩
    · have hc : badB u more = false := by simpa using hc
      by_cases h5 : u < t
      · have CB1 := Lib.hid (fun w => refBad t rho w ht hrho)
        have CB2 := Lib.hid (fun w => refBad u more w hu hmore)
        clear ht hrho hu hmore
        go_enter Try.func10, Try.ntmps10
        go_wp2_with fail
        refine (sumAnswers _).mono ?_
        rintro e w' ⟨rfl, rfl⟩
        go_wp2_with fail
        refine (CB1.out _).mono ?_
        rintro e w' ⟨rfl, rfl⟩
        go_wp2_with fail
        refine (CB2.out _).mono ?_
        rintro e w' ⟨rfl, rfl⟩
        go_wp2_with fail
        refine (sumAnswers _).mono ?_
        rintro e w' ⟨rfl, rfl⟩
        go_wp2_with fail
        go_ret
        exact ⟨rfl, by repeat (first | exact Below.refl _ _ | refine below_drewN ?_ _)⟩
      · by_cases h6 : more < rho
        · have CB1 := Lib.hid (fun w => refBad t rho w ht hrho)
          have CB2 := Lib.hid (fun w => refBad u more w hu hmore)
          clear ht hrho hu hmore
          go_enter Try.func10, Try.ntmps10
          go_wp2_with fail
          refine (sumAnswers _).mono ?_
          rintro e w' ⟨rfl, rfl⟩
          go_wp2_with fail
          refine (CB1.out _).mono ?_
          rintro e w' ⟨rfl, rfl⟩
          go_wp2_with fail
          refine (CB2.out _).mono ?_
          rintro e w' ⟨rfl, rfl⟩
          go_wp2_with fail
          refine (sumAnswers _).mono ?_
          rintro e w' ⟨rfl, rfl⟩
          go_wp2_with fail
          go_ret
          exact ⟨rfl, by repeat (first | exact Below.refl _ _ | refine below_drewN ?_ _)⟩
        · have CB1 := Lib.hid (fun w => refBad t rho w ht hrho)
          have CB2 := Lib.hid (fun w => refBad u more w hu hmore)
          have hg := good_iff.1 hb
          have hk := good_iff.1 hc
          have c1 : t ≤ u := by omega
          have c2 : rho ≤ more := by omega
          have g1 : Good u rho := ⟨hk.1, hk.2.1, hg.2.2.1, hg.2.2.2⟩
          have g2 : Good t more := ⟨hg.1, hg.2.1, hk.2.2.1, hk.2.2.2⟩
          have g3 : Good t 0 := ⟨hg.1, hg.2.1, by omega, by omega⟩
          have C1 := Lib.hid (fun w => sumMost t rho w hg)
          have C2 := Lib.hid (fun w => sumMost u rho w g1)
          have C3 := Lib.hid (fun w => sumMost t more w g2)
          have C4 := Lib.hid (fun w => sumGuard t rho w hg)
          have C5 := Lib.hid (fun w => sumGuard u rho w g1)
          have C6 := Lib.hid (fun w => sumGuard t more w g2)
          have C7 := Lib.hid (fun w => sumLeast t rho w hg)
          have C8 := Lib.hid (fun w => sumShrink t rho w hg)
          have C9 := Lib.hid (fun w => guard_zero (t := t) ▸ sumGuard t 0 w g3)
          have f1 : mostV t rho ≤ mostV u rho := most_mono hg.2.2.1 c1
          have f2 : mostV t rho ≤ mostV t more := most_more hg.1 c2
          have f3 : guardV t rho ≤ guardV u rho := guard_mono hg.2.2.1 c1
          have f4 : guardV t more ≤ guardV t rho := guard_more hg.1 hg.2.1 hg.2.2.1 c2 hk.2.2.2
          have f5 : t ≤ mostV t rho := (most_bd hg).1
          have f6 : leastV t rho ≤ t := (least_bd hg).2.2
          have f7 : leastV t rho ≤ shrinkV t rho + 1 := (least_bd hg).2.1
          have f8 : shrinkV t rho ≤ leastV t rho := (least_bd hg).1
          have f9 : 0 ≤ shrinkV t rho := (shrink_bd hg).1
          obtain ⟨h1, h2, h3, h4⟩ := hg
          clear ht hrho hu hmore hk g1 g2 g3
          generalize mostV t rho = x1 at *
          generalize mostV u rho = x2 at *
          generalize mostV t more = x3 at *
          generalize guardV t rho = x4 at *
          generalize guardV u rho = x5 at *
          generalize guardV t more = x6 at *
          generalize leastV t rho = x7 at *
          generalize shrinkV t rho = x8 at *
          go_enter Try.func10, Try.ntmps10
          go_wp2_with fail
          refine (sumAnswers _).mono ?_
          rintro e w' ⟨rfl, rfl⟩
          go_wp2_with fail
          refine (CB1.out _).mono ?_
          rintro e w' ⟨rfl, rfl⟩
          go_wp2_with fail
          refine (CB2.out _).mono ?_
          rintro e w' ⟨rfl, rfl⟩
          go_wp2_with fail
          refine (C1.out _).mono ?_
          rintro e w' ⟨rfl, rfl⟩
          go_wp2_with fail
          refine (C2.out _).mono ?_
          rintro e w' ⟨rfl, rfl⟩
          go_wp2_with fail
          refine (C3.out _).mono ?_
          rintro e w' ⟨rfl, rfl⟩
          go_wp2_with fail
          refine (C4.out _).mono ?_
          rintro e w' ⟨rfl, rfl⟩
          go_wp2_with fail
          refine (C5.out _).mono ?_
          rintro e w' ⟨rfl, rfl⟩
          go_wp2_with fail
          refine (C6.out _).mono ?_
          rintro e w' ⟨rfl, rfl⟩
          go_wp2_with fail
          refine (C7.out _).mono ?_
          rintro e w' ⟨rfl, rfl⟩
          go_wp2_with fail
          refine (C8.out _).mono ?_
          rintro e w' ⟨rfl, rfl⟩
          go_wp2_with fail
          refine (C9.out _).mono ?_
          rintro e w' ⟨rfl, rfl⟩
          go_wp2_with fail
          go_ret
          exact ⟨rfl, by repeat (first | exact Below.refl _ _ | refine below_drewN ?_ _)⟩

set_option maxRecDepth 100000 in
set_option maxHeartbeats 1000000 in
theorem walkSumParts (t u rho : Int) (ht : I64 t) (hu : I64 u) (hrho : I64 rho) (w : World) :
    Calls Try.prog 6 #[.int .i64 t, .int .i64 u, .int .i64 rho] w (Yes w) := by
  by_cases hb : badB t rho = true
  · have CB1 := Lib.hid (fun w => refBad t rho w ht hrho)
    have CB2 := Lib.hid (fun w => refBad u rho w hu hrho)
    clear ht hrho hu
    go_enter Try.func6, Try.ntmps6
    go_wp2_with fail
    refine (sumAnswers _).mono ?_
    rintro e w' ⟨rfl, rfl⟩
    go_wp2_with fail
    refine (CB1.out _).mono ?_
    rintro e w' ⟨rfl, rfl⟩
    go_wp2_with fail
    refine (sumAnswers _).mono ?_
    rintro e w' ⟨rfl, rfl⟩
    go_wp2_with fail
    go_ret
    exact ⟨rfl, by repeat (first | exact Below.refl _ _ | refine below_drewN ?_ _)⟩
  · have hb : badB t rho = false := by simpa using hb
    by_cases hc : badB u rho = true
    · have CB1 := Lib.hid (fun w => refBad t rho w ht hrho)
      have CB2 := Lib.hid (fun w => refBad u rho w hu hrho)
      clear ht hrho hu
      go_enter Try.func6, Try.ntmps6
      go_wp2_with fail
      refine (sumAnswers _).mono ?_
      rintro e w' ⟨rfl, rfl⟩
      go_wp2_with fail
      refine (CB1.out _).mono ?_
      rintro e w' ⟨rfl, rfl⟩
      go_wp2_with fail
      refine (CB2.out _).mono ?_
      rintro e w' ⟨rfl, rfl⟩
      go_wp2_with fail
      refine (sumAnswers _).mono ?_
      rintro e w' ⟨rfl, rfl⟩
      go_wp2_with fail
      go_ret
      exact ⟨rfl, by repeat (first | exact Below.refl _ _ | refine below_drewN ?_ _)⟩
    · have hc : badB u rho = false := by simpa using hc
      by_cases h5 : 1099511627776 < t + u
      · have CB1 := Lib.hid (fun w => refBad t rho w ht hrho)
        have CB2 := Lib.hid (fun w => refBad u rho w hu hrho)
        obtain ⟨h1, h2, h3, h4⟩ := good_iff.1 hb
        obtain ⟨k1, k2, k3, k4⟩ := good_iff.1 hc
        clear ht hrho hu
        go_enter Try.func6, Try.ntmps6
        go_wp2_with fail
        refine (sumAnswers _).mono ?_
        rintro e w' ⟨rfl, rfl⟩
        go_wp2_with fail
        refine (CB1.out _).mono ?_
        rintro e w' ⟨rfl, rfl⟩
        go_wp2_with fail
        refine (CB2.out _).mono ?_
        rintro e w' ⟨rfl, rfl⟩
        go_wp2_with fail
        refine (sumAnswers _).mono ?_
        rintro e w' ⟨rfl, rfl⟩
        go_wp2_with fail
        go_ret
        exact ⟨rfl, by repeat (first | exact Below.refl _ _ | refine below_drewN ?_ _)⟩
      · have CB1 := Lib.hid (fun w => refBad t rho w ht hrho)
        have CB2 := Lib.hid (fun w => refBad u rho w hu hrho)
        have hg := good_iff.1 hb
        have hk := good_iff.1 hc
        have hm : Good (t + u) rho := ⟨by have := hg.1; have := hk.1; omega, by omega, hg.2.2.1, hg.2.2.2⟩
        have C1 := Lib.hid (fun w => sumMost t rho w hg)
        have C2 := Lib.hid (fun w => sumMost u rho w hk)
        have C3 := Lib.hid (fun w => sumMost (t + u) rho w hm)
        have C4 := Lib.hid (fun w => sumShrink t rho w hg)
        have C5 := Lib.hid (fun w => sumShrink u rho w hk)
        have C6 := Lib.hid (fun w => sumShrink (t + u) rho w hm)
        have C7 := Lib.hid (fun w => sumLeast t rho w hg)
        have C8 := Lib.hid (fun w => sumLeast u rho w hk)
        have C9 := Lib.hid (fun w => sumLeast (t + u) rho w hm)
        obtain ⟨f1, f2⟩ := most_parts (t := t) (u := u) (r := rho)
        obtain ⟨f3, f4⟩ := shrink_parts (t := t) (u := u) hg.2.2.1
        obtain ⟨f5, f6⟩ := least_parts (t := t) (u := u) hg.2.2.1
        obtain ⟨m1, m2⟩ := most_bd hg
        obtain ⟨m3, m4⟩ := most_bd hk
        obtain ⟨m5, m6⟩ := most_bd hm
        obtain ⟨l1, l2, l3⟩ := least_bd hg
        obtain ⟨l4, l5, l6⟩ := least_bd hk
        obtain ⟨l7, l8, l9⟩ := least_bd hm
        obtain ⟨s1, s2⟩ := shrink_bd hg
        obtain ⟨s3, s4⟩ := shrink_bd hk
        obtain ⟨s5, s6⟩ := shrink_bd hm
        obtain ⟨h1, h2, h3, h4⟩ := hg
        obtain ⟨k1, k2, k3, k4⟩ := hk
        clear ht hrho hu hm
        generalize mostV t rho = x1 at *
        generalize mostV u rho = x2 at *
        generalize mostV (t + u) rho = x3 at *
        generalize shrinkV t rho = x4 at *
        generalize shrinkV u rho = x5 at *
        generalize shrinkV (t + u) rho = x6 at *
        generalize leastV t rho = x7 at *
        generalize leastV u rho = x8 at *
        generalize leastV (t + u) rho = x9 at *
        go_enter Try.func6, Try.ntmps6
        go_wp2_with fail
        refine (sumAnswers _).mono ?_
        rintro e w' ⟨rfl, rfl⟩
        go_wp2_with fail
        refine (CB1.out _).mono ?_
        rintro e w' ⟨rfl, rfl⟩
        go_wp2_with fail
        refine (CB2.out _).mono ?_
        rintro e w' ⟨rfl, rfl⟩
        go_wp2_with fail
        refine (C1.out _).mono ?_
        rintro e w' ⟨rfl, rfl⟩
        go_wp2_with fail
        refine (C2.out _).mono ?_
        rintro e w' ⟨rfl, rfl⟩
        go_wp2_with fail
        refine (C3.out _).mono ?_
        rintro e w' ⟨rfl, rfl⟩
        go_wp2_with fail
        refine (C4.out _).mono ?_
        rintro e w' ⟨rfl, rfl⟩
        go_wp2_with fail
        refine (C5.out _).mono ?_
        rintro e w' ⟨rfl, rfl⟩
        go_wp2_with fail
        refine (C6.out _).mono ?_
        rintro e w' ⟨rfl, rfl⟩
        go_wp2_with fail
        refine (C7.out _).mono ?_
        rintro e w' ⟨rfl, rfl⟩
        go_wp2_with fail
        refine (C8.out _).mono ?_
        rintro e w' ⟨rfl, rfl⟩
        go_wp2_with fail
        refine (C9.out _).mono ?_
        rintro e w' ⟨rfl, rfl⟩
        go_wp2_with fail
        go_ret
        exact ⟨rfl, by repeat (first | exact Below.refl _ _ | refine below_drewN ?_ _)⟩
end Go.Proofs.Ytogcdbodlomgeaa
