/- Contract of the reference's Num. -/
import Derived.Test.YtjgonfnpfbifjaaGreatDoorReadA
namespace Go.Proofs.YtjgonfnpfbifjaaGreatDoor
open Go.RowKit

end Go.Proofs.YtjgonfnpfbifjaaGreatDoor
