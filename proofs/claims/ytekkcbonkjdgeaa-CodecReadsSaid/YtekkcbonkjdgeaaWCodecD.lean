/- The walk of the law CodecReads. -/
import Derived.Test.YtekkcbonkjdgeaaReadF
import Derived.Test.YtekkcbonkjdgeaaText
import Derived.Test.YtekkcbonkjdgeaaLift
import Derived.Test.YtekkcbonkjdgeaaI64
namespace Go.Proofs.Ytekkcbonkjdgeaa
open Go.RowKit

set_option maxRecDepth 100000 in
set_option maxHeartbeats 4000000 in
theorem walkCodecReads (A : Option Addr) (c : Nat) (b : List UInt8) (i : Int) (w : World) (h : RB w A b) (hl : b.length ≤ 140737488351232) (hc : b.length ≤ c) (hm : c ≤ 9223372036854775807) (hi : -9223372036854775808 ≤ i ∧ i ≤ 9223372036854775807) :
    Calls Try.prog 12 #[.slice A b.length c, .int .i64 i] w (Yes w) := by
  have HI := Lib.hid hi
  have OWN := Lib.hid (fun w' (hb : Below w.heap.size w w') => ownB A c b w' (h.below hb) (by omega))
  have N1 := Lib.hid (fun w' (hb : Below w.heap.size w w') => refNum A c b i w' (h.below hb) (by omega) hi)
  have B1 := Lib.hid (fun w' (hb : Below w.heap.size w w') => refBytes A c b i w' (h.below hb) hc hm (by omega) hi)
  have U1 := Lib.hid (fun w' (hb : Below w.heap.size w w') => refUnframe A c b i w' (h.below hb) hc hm (by omega) hi)
  clear h hi
  go_enter Try.func12, Try.ntmps12
  go_wp2_with fail
  refine (OWN.out _ (Below.refl _ _)).mono ?_
  rintro e w1 ⟨k1, A1, c1, hk1, hk11, hk12, rfl, ho1, hb1⟩
  have C := codecNum A1 c1 k1 i w1 ho1.rb ho1.cap.1 ho1.cap.2 (by omega) HI.out
  go_wp2_with fail
  refine C.mono ?_
  rintro e w' ⟨rfl, rfl⟩
  rw [hk1.out]
  clear C hk1 hk11 hk12 ho1
  go_wp2_with fail
  refine (N1.out _ hb1).mono ?_
  rintro e w' ⟨rfl, rfl⟩
  go_wp2_with fail
  refine (OWN.out _ hb1).mono ?_
  rintro e w2 ⟨k2, A2, c2, hk2, hk21, hk22, rfl, ho2, hb2⟩
  have C := codecBytes A2 c2 k2 i w2 ho2.rb ho2.cap.1 ho2.cap.2 (by omega) HI.out
  rw [hk2.out] at C
  have B2 := hb1.trans (hb2.mono hb1.size)
  clear hb1 hb2 ho2
  go_wp2_with fail
  rw [hk2.out]
  refine C.mono ?_
  rintro e w3 ⟨k3, A3, c3, hk3, hk31, rfl, hr3, hb3⟩
  have B3 := B2.trans (hb3.mono B2.size)
  clear C hk2 hk21 hk22 B2 hb3
  go_wp2_with fail
  refine (B1.out _ B3).mono ?_
  rintro e w4 ⟨k4, A4, c4, hk4, hk41, rfl, hr4, hb4⟩
  have B4 := B3.trans (hb4.mono B3.size)
  have hr3 := hr3.below hb4
  clear B3 hb4
  go_wp2_with fail
  refine (OWN.out _ B4).mono ?_
  rintro e w5 ⟨k5, A5, c5, hk5, hk51, hk52, rfl, ho5, hb5⟩
  have C := codecUnframe A5 c5 k5 i w5 ho5.rb ho5.cap.1 ho5.cap.2 (by omega) HI.out
  have B5 := B4.trans (hb5.mono B4.size)
  have hr3 := hr3.below hb5
  have hr4 := hr4.below hb5
  rw [hk5.out] at C
  clear ho5 B4 hb5
  go_wp2_with fail
  rw [hk5.out]
  refine C.mono ?_
  rintro e w6 ⟨k6, A6, c6, hk6, hk61, rfl, hr6, hb6⟩
  have B6 := B5.trans (hb6.mono B5.size)
  have hr3 := hr3.below hb6
  have hr4 := hr4.below hb6
  clear C hk5 hk51 hk52 B5 hb6
  go_wp2_with fail
  refine (U1.out _ B6).mono ?_
  rintro e w7 ⟨k7, A7, c7, hk7, hk71, rfl, hr7, hb7⟩
  have B7 := B6.trans (hb7.mono B6.size)
  have hr3 := hr3.below hb7
  have hr4 := hr4.below hb7
  have hr6 := hr6.below hb7
  clear B6 hb7
  go_wp2_with fail
  refine (codecAnswers _).mono ?_
  rintro e w8 ⟨rfl, hb8⟩
  have B8 := B7.trans (hb8.mono B7.size)
  have q3 : (convert 23 9 (.slice A3 k3.length c3)).run Try.prog w8 = .ok (.string ⟨k3.toArray⟩) w8 := convB c3 (hr3.below hb8)
  have q4 : (convert 23 9 (.slice A4 k4.length c4)).run Try.prog w8 = .ok (.string ⟨k4.toArray⟩) w8 := convB c4 (hr4.below hb8)
  have q6 : (convert 23 9 (.slice A6 k6.length c6)).run Try.prog w8 = .ok (.string ⟨k6.toArray⟩) w8 := convB c6 (hr6.below hb8)
  have q7 : (convert 23 9 (.slice A7 k7.length c7)).run Try.prog w8 = .ok (.string ⟨k7.toArray⟩) w8 := convB c7 (hr7.below hb8)
  have e1 : (k3 == k4) = true := by rw [hk3.out, hk4.out]; simp
  have e2 : (k6 == k7) = true := by rw [hk6.out, hk7.out]; simp
  have HB := Lib.hid B8
  clear hk3 hk4 hk6 hk7 hr3 hr4 hr6 hr7 B7 B8 hb8
  go_wp2_with fail
  go_ret
  exact ⟨rfl, HB.out⟩
end Go.Proofs.Ytekkcbonkjdgeaa
