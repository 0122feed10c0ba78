/- int64, beside the layer sum's word. -/
import Derived.Test.YtekkcbonkjdgeaaSumNum
import Derived.Test.YtekkcbonkjdgeaaMem
namespace Go.Proofs.Ytekkcbonkjdgeaa
theorem i64_of_wf {x : Int} (h : (Lit.int .i64 x).wf = true) : I64 x := by
  simp [Lit.wf, IntKind.min, IntKind.max, IntKind.signed, IntKind.bits] at h
  exact ⟨by omega, by omega⟩
end Go.Proofs.Ytekkcbonkjdgeaa
