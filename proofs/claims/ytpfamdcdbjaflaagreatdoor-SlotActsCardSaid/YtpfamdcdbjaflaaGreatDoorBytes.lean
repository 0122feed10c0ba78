/- Contracts of small functions on bytes: slices.Clone, slices.Clip, own. Each makes new bytes; what was there stays. -/
import Derived.Test.YtpfamdcdbjaflaaGreatDoorClone
import Derived.Test.YtpfamdcdbjaflaaGreatDoorShelf
namespace Go.Proofs.YtpfamdcdbjaflaaGreatDoor
open Go.RowKit

theorem len64 (n : Int) (w : World) (h0 : 0 ≤ n) (h1 : n ≤ 18446744073709551615) :
    Calls Tryz.prog 102 #[.int .u64 n] w fun e w' => e = .returned (.int .i64 (Lib.bitLen n.toNat)) ∧ w = w' :=
  (Tryz.bits_Len64 n w h0 h1).mono fun _ _ h => ⟨h.1, h.2.symm⟩
end Go.Proofs.YtpfamdcdbjaflaaGreatDoor
