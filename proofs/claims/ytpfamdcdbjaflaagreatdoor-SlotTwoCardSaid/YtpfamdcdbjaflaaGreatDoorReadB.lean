/- Contract of the reference's Num. -/
import Derived.Test.YtpfamdcdbjaflaaGreatDoorReadA
namespace Go.Proofs.YtpfamdcdbjaflaaGreatDoor
open Go.RowKit

end Go.Proofs.YtpfamdcdbjaflaaGreatDoor
