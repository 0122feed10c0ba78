/- The walks of the laws of layer sum: each law's Go function returns true, for all int64 arguments, and writes nothing that was there. -/
import Derived.Test.YtogcdbodlomgeaaDrift
import Derived.Test.YtogcdbodlomgeaaLift
namespace Go.Proofs.Ytogcdbodlomgeaa
open Go.RowKit

set_option maxHeartbeats 400000 in
theorem sumAnswers (w : World) : Calls Try.prog 20 #[] w fun e w' => e = .returned (.bool true) ∧ w = w' := by
  have C := Lib.hid (fun w => sumAdd 2 3 w ⟨by omega, by omega⟩ ⟨by omega, by omega⟩)
  go_enter Try.func20, Try.ntmps20
  go_wp2_with fail
  refine (C.out _).mono ?_
  rintro e w' ⟨rfl, rfl⟩
  have e1 : cutV (2 + 3) = 5 := by decide
  have e2 : cutE (2 + 3) = 0 := by decide
  rw [e1, e2]
  clear e1 e2
  go_wp2_with fail
  go_ret
  exact ⟨rfl, rfl⟩

theorem i64_of_wf {x : Int} (h : (Lit.int .i64 x).wf = true) : I64 x := by
  simp [Lit.wf, IntKind.min, IntKind.max, IntKind.signed, IntKind.bits] at h
  exact ⟨by omega, by omega⟩

set_option maxHeartbeats 400000 in
theorem walkSumTwo (a b : Int) (ha : I64 a) (hb : I64 b) (w : World) :
    Calls Try.prog 5 #[.int .i64 a, .int .i64 b] w (Yes w) := by
  have C1 := Lib.hid (fun w => sumAdd a b w ha hb)
  have C2 := Lib.hid (fun w => refAdd a b w ha hb)
  have C3 := Lib.hid (fun w => sumSub a b w ha hb)
  have C4 := Lib.hid (fun w => refSub a b w ha hb)
  have C5 := Lib.hid (fun w => sumMul a b w ha hb)
  have C6 := Lib.hid (fun w => refMul a b w ha hb)
  clear ha hb
  go_enter Try.func5, Try.ntmps5
  go_wp2_with fail
  refine (C1.out _).mono ?_
  rintro e w' ⟨rfl, rfl⟩
  go_wp2_with fail
  refine (C2.out _).mono ?_
  rintro e w' ⟨rfl, rfl⟩
  go_wp2_with fail
  refine (C3.out _).mono ?_
  rintro e w' ⟨rfl, rfl⟩
  go_wp2_with fail
  refine (C4.out _).mono ?_
  rintro e w' ⟨rfl, rfl⟩
  go_wp2_with fail
  refine (C5.out _).mono ?_
  rintro e w' ⟨rfl, rfl⟩
  go_wp2_with fail
  refine (C6.out _).mono ?_
  rintro e w' ⟨rfl, rfl⟩
  generalize cutV (a + b) = v1
  generalize cutE (a + b) = e1
  generalize cutV (a - b) = v2
  generalize cutE (a - b) = e2
  generalize cutV (a * b) = v3
  generalize cutE (a * b) = e3
  go_wp2_with fail
  refine (sumAnswers _).mono ?_
  rintro e w' ⟨rfl, rfl⟩
  go_wp2_with fail
  go_outline
  go_ret
  exact ⟨rfl, Below.refl _ _⟩
end Go.Proofs.Ytogcdbodlomgeaa
