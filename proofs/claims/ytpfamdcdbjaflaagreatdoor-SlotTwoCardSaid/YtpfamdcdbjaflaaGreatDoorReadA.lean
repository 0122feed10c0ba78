/- Contracts of codec.Num and of its reference. -/
import Derived.Test.YtpfamdcdbjaflaaGreatDoorReadNum
import Derived.Test.YtpfamdcdbjaflaaGreatDoorBytes
import Derived.Laws.BitsAllLaws
namespace Go.Proofs.YtpfamdcdbjaflaaGreatDoor
open Go.RowKit

theorem or_byte (n x : Nat) (hn : n < 72057594037927936) (hx : x < 256) : bits BinOp.or IntKind.u64 ((n : Int) * 256) (x : Int) = ((n * 256 + x : Nat) : Int) := by
  have h := u64_or_nat (n * 256) x (by omega) (by omega)
  rw [show ((n * 256 : Nat) : Int) = (n : Int) * 256 from by omega] at h
  rw [h]
  congr 1
  have := Nat.shiftLeft_add_eq_or_of_lt (a := n) (b := x) (i := 8) (by omega)
  rw [Nat.shiftLeft_eq] at this
  exact this.symm

/-- Is a place one of n, or their end? -/
def insB (n : Nat) (i : Int) : Bool := decide (0 ≤ i ∧ i ≤ (n : Int))
theorem insB_yes {n : Nat} {i : Int} (h : 0 ≤ i ∧ i ≤ (n : Int)) : insB n i = true := by simpa [insB] using h
theorem insB_no {n : Nat} {i : Int} (h : ¬ (0 ≤ i ∧ i ≤ (n : Int))) : insB n i = false := by simpa [insB] using h
set_option maxHeartbeats 400000 in
theorem codecInside (A : Option Addr) (n c : Nat) (i : Int) (w : World) (_hn : n ≤ 9223372036854775807) :
    Calls Tryz.prog 51 #[.slice A n c, .int .i64 i] w fun e w' => e = .returned (.bool (insB n i)) ∧ w = w' := by
  by_cases h0 : 0 ≤ i
  · by_cases h1 : i ≤ (n : Int)
    · rw [insB_yes ⟨h0, h1⟩]
      go_enter Tryz.func51, Tryz.ntmps51
      go_wp2_with fail
      go_ret
      exact ⟨rfl, rfl⟩
    · rw [insB_no (by omega)]
      go_enter Tryz.func51, Tryz.ntmps51
      go_wp2_with fail
      go_ret
      exact ⟨rfl, rfl⟩
  · rw [insB_no (by omega)]
    go_enter Tryz.func51, Tryz.ntmps51
    go_wp2_with fail
    go_ret
    exact ⟨rfl, rfl⟩

/-- What Num ends in. -/
def NumE (b : List UInt8) (i : Int) (w : World) (e : Ending) (w' : World) : Prop :=
  e = .returned (.tuple #[.int .u64 (numAt b i).1, .int .i64 (numAt b i).2.1, .int .i64 (numAt b i).2.2]) ∧ w = w'
theorem numE {b : List UInt8} {i x y z : Int} {w : World} (h : numAt b i = (x, y, z)) : NumE b i w (.returned (.tuple #[.int .u64 x, .int .i64 y, .int .i64 z])) w := by
  unfold NumE; rw [h]; exact ⟨rfl, rfl⟩

end Go.Proofs.YtpfamdcdbjaflaaGreatDoor
