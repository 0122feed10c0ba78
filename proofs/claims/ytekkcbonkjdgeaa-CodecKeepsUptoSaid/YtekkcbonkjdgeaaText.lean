/- Bytes as a string, and the codec's own look at itself. -/
import Derived.Test.YtekkcbonkjdgeaaPutNum
import Derived.Test.YtekkcbonkjdgeaaCrc
import Derived.Test.YtekkcbonkjdgeaaConv
namespace Go.Proofs.Ytekkcbonkjdgeaa
open Go.RowKit

set_option maxHeartbeats 400000 in
theorem codecAnswers (w : World) : Calls Try.prog 15 #[] w fun e w' => e = .returned (.bool true) ∧ Below w.heap.size w w' := by
  have C := Lib.hid (putNumB none 0 [] 256 w RB.nil (by simp) (by omega) (by omega))
  go_enter Try.func15, Try.ntmps15
  go_wp2_with fail
  refine C.out.mono ?_
  rintro e w1 ⟨k1, A1, c1, hk1, hk2, hk3, rfl, ho1, hb1⟩
  obtain rfl : k1 = [2, 1, 0] := by rw [hk1.out]; decide
  clear hk1 hk2 hk3
  have hcv : (convert 23 9 (.slice A1 3 c1)).run Try.prog w1 = .ok (.string ⟨[2, 1, 0].toArray⟩) w1 := convB c1 ho1.rb
  have kc := fun (w : World) (C : Array Value) (n c : Nat) => Lib.run_convert_bytes_const (P := Try.prog) w 23 5 C n c Try.underlying23 Try.underlying5
  go_wp2_with fail
  have hr : RB (w1.alloc (.cells #[.int .u8 49, .int .u8 50, .int .u8 51, .int .u8 52, .int .u8 53, .int .u8 54, .int .u8 55, .int .u8 56, .int .u8 57] 5 (9, 10))) (some ⟨w1.heap.size, 0, none⟩) [49, 50, 51, 52, 53, 54, 55, 56, 57] :=
    RB.of_rv (RV.lit w1 (bcells [49, 50, 51, 52, 53, 54, 55, 56, 57]) 5 (9, 10))
  have C2 := codecSum (some ⟨w1.heap.size + 1, 0, none⟩) 1 [(some ⟨w1.heap.size, 0, none⟩, 9, [49, 50, 51, 52, 53, 54, 55, 56, 57])] _ (RBB.one_at _ 9 (by simp) hr (by decide)) (by simp)
  have hcrc : crc (allB [(some ⟨w1.heap.size, 0, none⟩, 9, [49, 50, 51, 52, 53, 54, 55, 56, 57])]) = 3421780262 := by
    show crc [49, 50, 51, 52, 53, 54, 55, 56, 57] = 3421780262
    decide +kernel
  rw [hcrc] at C2
  have C3 := Lib.hid C2
  clear C2 hcrc
  refine C3.out.mono ?_
  rintro e w2 ⟨rfl, hb2⟩
  clear C3 kc
  go_wp2_with fail
  go_ret
  exact ⟨rfl, hb1.trans ((((Below.refl _ _).alloc hb1.size _).alloc (by have := hb1.size; simp; omega) _).trans (hb2.mono (by have := hb1.size; simp; omega)))⟩
end Go.Proofs.Ytekkcbonkjdgeaa
