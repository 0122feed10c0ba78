/- int64. -/
import Derived.Test.YtcinohmhhglpjaaDoorMem
namespace Go.Proofs.YtcinohmhhglpjaaDoor
def I64 (n : Int) : Prop := -9223372036854775808 ≤ n ∧ n ≤ 9223372036854775807
theorem i64_of_wf {x : Int} (h : (Lit.int .i64 x).wf = true) : I64 x := by
  simp [Lit.wf, IntKind.min, IntKind.max, IntKind.signed, IntKind.bits] at h
  exact ⟨by omega, by omega⟩
end Go.Proofs.YtcinohmhhglpjaaDoor
