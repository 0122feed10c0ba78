/-
  No cell of these rows narrows 'for every input' (looked for: loops, veiled, ifaces, maps, wideKeys, modest, calm, conditions, laid).
  DERIVED. THE GIVEN ROWS OF THIS SEAT. 12 by the template 'for every input the law returns true; each argument reads behind the call as it read before'; 0 by the template 'total and deterministic' (their statements: YtogcdbodlomgeaaTotals.lean).
  GIVEN WITH THE SEED: the statements are not yours to turn. If you find one false, say at which input.
  Laid BY PROGRAM, IN A SANDBOX (cutbox-rows.mjs): the forced cells as the released guide's own fill.sh prints them over the translation 49f556bde619e161… (all of the seat's roots in one cut). By AI agents, Wed Nov 11 2026. No macro, syntax, notation, axiom, sorry.
-/
import Derived.Test.YtogcdbodlomgeaaChecked
import GoSem.Claim
import GoSem.ClaimJoined
import GoSem.ClaimMapViews
import Derived.JoinedTies
import Derived.KernelRfl
namespace Go.Proofs.Ytogcdbodlomgeaa
/- THE CELL 'sum', in the pinned program and in every row, IS THE sha256 OF THE DUMP (.gsa) THAT YtogcdbodlomgeaaProg.lean LOADS. Nothing in Lean hashes anything: it is a label: what it is worth is what the hold of that sum in a sandbox is worth. -/
noncomputable def Try.pinned : Pinned := { name := "ytogcdbodlomgeaa", sum := "49f556bde619e161e3a4779a7a6ae8e4498d3960120e317000a7d937ad71b960", checked := Try.checked }
namespace Rows
def none {H : Type} : Left H := { results := [], args := [] }

/-- 'scupperlaw07.SnapCuts': WHATEVER THE INPUT: true; the input reads as it did. -/
def snapCutsSpec : ChangeSpec := { name := "snapCuts", fn := fun _ => fun
  | [d1, d2, d3, d4] => { results := [.lit (.bool true)], args := [d1, d2, d3, d4] }
  | _ => none }
def snapCutsRow : OpenClaim := { program := "ytogcdbodlomgeaa", sum := "49f556bde619e161e3a4779a7a6ae8e4498d3960120e317000a7d937ad71b960", func := "scupper/scupperlaw07.SnapCuts", spec := "snapCuts", apart := false }
def SnapCutsSaid : Prop := snapCutsRow.holds Try.pinned (OpenSpec.ofChange snapCutsSpec)

/-- ITS FALSE NEIGHBOUR: 'it returns false'. Refute it at one input. -/
def snapCutsWrong : ChangeSpec := { name := "snapCuts", fn := fun _ => fun
  | [d1, d2, d3, d4] => { results := [.lit (.bool false)], args := [d1, d2, d3, d4] }
  | _ => none }
def SnapCutsWrongFalsely : Prop := snapCutsRow.holds Try.pinned (OpenSpec.ofChange snapCutsWrong)

/-- 'scupperlaw01.SumTotal': WHATEVER THE INPUT: true; the input reads as it did. -/
def sumTotalSpec : ChangeSpec := { name := "sumTotal", fn := fun _ => fun
  | [d] => { results := [.lit (.bool true)], args := [d] }
  | _ => none }
def sumTotalRow : OpenClaim := { program := "ytogcdbodlomgeaa", sum := "49f556bde619e161e3a4779a7a6ae8e4498d3960120e317000a7d937ad71b960", func := "scupper/scupperlaw01.SumTotal", spec := "sumTotal", apart := false }
def SumTotalSaid : Prop := sumTotalRow.holds Try.pinned (OpenSpec.ofChange sumTotalSpec)

/-- ITS FALSE NEIGHBOUR: 'it returns false'. Refute it at one input. -/
def sumTotalWrong : ChangeSpec := { name := "sumTotal", fn := fun _ => fun
  | [d] => { results := [.lit (.bool false)], args := [d] }
  | _ => none }
def SumTotalWrongFalsely : Prop := sumTotalRow.holds Try.pinned (OpenSpec.ofChange sumTotalWrong)

/-- 'scupperlaw01.SumTwo': WHATEVER THE INPUT: true; the input reads as it did. -/
def sumTwoSpec : ChangeSpec := { name := "sumTwo", fn := fun _ => fun
  | [d1, d2] => { results := [.lit (.bool true)], args := [d1, d2] }
  | _ => none }
def sumTwoRow : OpenClaim := { program := "ytogcdbodlomgeaa", sum := "49f556bde619e161e3a4779a7a6ae8e4498d3960120e317000a7d937ad71b960", func := "scupper/scupperlaw01.SumTwo", spec := "sumTwo", apart := false }
def SumTwoSaid : Prop := sumTwoRow.holds Try.pinned (OpenSpec.ofChange sumTwoSpec)

/-- ITS FALSE NEIGHBOUR: 'it returns false'. Refute it at one input. -/
def sumTwoWrong : ChangeSpec := { name := "sumTwo", fn := fun _ => fun
  | [d1, d2] => { results := [.lit (.bool false)], args := [d1, d2] }
  | _ => none }
def SumTwoWrongFalsely : Prop := sumTwoRow.holds Try.pinned (OpenSpec.ofChange sumTwoWrong)

/-- 'scupperlaw01.SumParts': WHATEVER THE INPUT: true; the input reads as it did. -/
def sumPartsSpec : ChangeSpec := { name := "sumParts", fn := fun _ => fun
  | [d1, d2, d3] => { results := [.lit (.bool true)], args := [d1, d2, d3] }
  | _ => none }
def sumPartsRow : OpenClaim := { program := "ytogcdbodlomgeaa", sum := "49f556bde619e161e3a4779a7a6ae8e4498d3960120e317000a7d937ad71b960", func := "scupper/scupperlaw01.SumParts", spec := "sumParts", apart := false }
def SumPartsSaid : Prop := sumPartsRow.holds Try.pinned (OpenSpec.ofChange sumPartsSpec)

/-- ITS FALSE NEIGHBOUR: 'it returns false'. Refute it at one input. -/
def sumPartsWrong : ChangeSpec := { name := "sumParts", fn := fun _ => fun
  | [d1, d2, d3] => { results := [.lit (.bool false)], args := [d1, d2, d3] }
  | _ => none }
def SumPartsWrongFalsely : Prop := sumPartsRow.holds Try.pinned (OpenSpec.ofChange sumPartsWrong)

/-- 'scupperlaw01.SumTrust': WHATEVER THE INPUT: true; the input reads as it did. -/
def sumTrustSpec : ChangeSpec := { name := "sumTrust", fn := fun _ => fun
  | [d1, d2] => { results := [.lit (.bool true)], args := [d1, d2] }
  | _ => none }
def sumTrustRow : OpenClaim := { program := "ytogcdbodlomgeaa", sum := "49f556bde619e161e3a4779a7a6ae8e4498d3960120e317000a7d937ad71b960", func := "scupper/scupperlaw01.SumTrust", spec := "sumTrust", apart := false }
def SumTrustSaid : Prop := sumTrustRow.holds Try.pinned (OpenSpec.ofChange sumTrustSpec)

/-- ITS FALSE NEIGHBOUR: 'it returns false'. Refute it at one input. -/
def sumTrustWrong : ChangeSpec := { name := "sumTrust", fn := fun _ => fun
  | [d1, d2] => { results := [.lit (.bool false)], args := [d1, d2] }
  | _ => none }
def SumTrustWrongFalsely : Prop := sumTrustRow.holds Try.pinned (OpenSpec.ofChange sumTrustWrong)

/-- 'scupperlaw01.SumRing': WHATEVER THE INPUT: true; the input reads as it did. -/
def sumRingSpec : ChangeSpec := { name := "sumRing", fn := fun _ => fun
  | [d1, d2, d3] => { results := [.lit (.bool true)], args := [d1, d2, d3] }
  | _ => none }
def sumRingRow : OpenClaim := { program := "ytogcdbodlomgeaa", sum := "49f556bde619e161e3a4779a7a6ae8e4498d3960120e317000a7d937ad71b960", func := "scupper/scupperlaw01.SumRing", spec := "sumRing", apart := false }
def SumRingSaid : Prop := sumRingRow.holds Try.pinned (OpenSpec.ofChange sumRingSpec)

/-- ITS FALSE NEIGHBOUR: 'it returns false'. Refute it at one input. -/
def sumRingWrong : ChangeSpec := { name := "sumRing", fn := fun _ => fun
  | [d1, d2, d3] => { results := [.lit (.bool false)], args := [d1, d2, d3] }
  | _ => none }
def SumRingWrongFalsely : Prop := sumRingRow.holds Try.pinned (OpenSpec.ofChange sumRingWrong)

/-- 'scupperlaw01.SumDrift': WHATEVER THE INPUT: true; the input reads as it did. -/
def sumDriftSpec : ChangeSpec := { name := "sumDrift", fn := fun _ => fun
  | [d1, d2] => { results := [.lit (.bool true)], args := [d1, d2] }
  | _ => none }
def sumDriftRow : OpenClaim := { program := "ytogcdbodlomgeaa", sum := "49f556bde619e161e3a4779a7a6ae8e4498d3960120e317000a7d937ad71b960", func := "scupper/scupperlaw01.SumDrift", spec := "sumDrift", apart := false }
def SumDriftSaid : Prop := sumDriftRow.holds Try.pinned (OpenSpec.ofChange sumDriftSpec)

/-- ITS FALSE NEIGHBOUR: 'it returns false'. Refute it at one input. -/
def sumDriftWrong : ChangeSpec := { name := "sumDrift", fn := fun _ => fun
  | [d1, d2] => { results := [.lit (.bool false)], args := [d1, d2] }
  | _ => none }
def SumDriftWrongFalsely : Prop := sumDriftRow.holds Try.pinned (OpenSpec.ofChange sumDriftWrong)

/-- 'scupperlaw01.SumOrder': WHATEVER THE INPUT: true; the input reads as it did. -/
def sumOrderSpec : ChangeSpec := { name := "sumOrder", fn := fun _ => fun
  | [d1, d2, d3, d4] => { results := [.lit (.bool true)], args := [d1, d2, d3, d4] }
  | _ => none }
def sumOrderRow : OpenClaim := { program := "ytogcdbodlomgeaa", sum := "49f556bde619e161e3a4779a7a6ae8e4498d3960120e317000a7d937ad71b960", func := "scupper/scupperlaw01.SumOrder", spec := "sumOrder", apart := false }
def SumOrderSaid : Prop := sumOrderRow.holds Try.pinned (OpenSpec.ofChange sumOrderSpec)

/-- ITS FALSE NEIGHBOUR: 'it returns false'. Refute it at one input. -/
def sumOrderWrong : ChangeSpec := { name := "sumOrder", fn := fun _ => fun
  | [d1, d2, d3, d4] => { results := [.lit (.bool false)], args := [d1, d2, d3, d4] }
  | _ => none }
def SumOrderWrongFalsely : Prop := sumOrderRow.holds Try.pinned (OpenSpec.ofChange sumOrderWrong)

/-- 'scupperlaw07.SnapAdds': WHATEVER THE INPUT: true; the input reads as it did. -/
def snapAddsSpec : ChangeSpec := { name := "snapAdds", fn := fun _ => fun
  | [d] => { results := [.lit (.bool true)], args := [d] }
  | _ => none }
def snapAddsRow : OpenClaim := { program := "ytogcdbodlomgeaa", sum := "49f556bde619e161e3a4779a7a6ae8e4498d3960120e317000a7d937ad71b960", func := "scupper/scupperlaw07.SnapAdds", spec := "snapAdds", apart := false }
def SnapAddsSaid : Prop := snapAddsRow.holds Try.pinned (OpenSpec.ofChange snapAddsSpec)

/-- ITS FALSE NEIGHBOUR: 'it returns false'. Refute it at one input. -/
def snapAddsWrong : ChangeSpec := { name := "snapAdds", fn := fun _ => fun
  | [d] => { results := [.lit (.bool false)], args := [d] }
  | _ => none }
def SnapAddsWrongFalsely : Prop := snapAddsRow.holds Try.pinned (OpenSpec.ofChange snapAddsWrong)

/-- 'scupperlaw07.SnapWhole': WHATEVER THE INPUT: true; the input reads as it did. -/
def snapWholeSpec : ChangeSpec := { name := "snapWhole", fn := fun _ => fun
  | [d1, d2, d3, d4] => { results := [.lit (.bool true)], args := [d1, d2, d3, d4] }
  | _ => none }
def snapWholeRow : OpenClaim := { program := "ytogcdbodlomgeaa", sum := "49f556bde619e161e3a4779a7a6ae8e4498d3960120e317000a7d937ad71b960", func := "scupper/scupperlaw07.SnapWhole", spec := "snapWhole", apart := false }
def SnapWholeSaid : Prop := snapWholeRow.holds Try.pinned (OpenSpec.ofChange snapWholeSpec)

/-- ITS FALSE NEIGHBOUR: 'it returns false'. Refute it at one input. -/
def snapWholeWrong : ChangeSpec := { name := "snapWhole", fn := fun _ => fun
  | [d1, d2, d3, d4] => { results := [.lit (.bool false)], args := [d1, d2, d3, d4] }
  | _ => none }
def SnapWholeWrongFalsely : Prop := snapWholeRow.holds Try.pinned (OpenSpec.ofChange snapWholeWrong)

/-- 'scupperlaw07.SnapNewer': WHATEVER THE INPUT: true; the input reads as it did. -/
def snapNewerSpec : ChangeSpec := { name := "snapNewer", fn := fun _ => fun
  | [d1, d2, d3, d4, d5] => { results := [.lit (.bool true)], args := [d1, d2, d3, d4, d5] }
  | _ => none }
def snapNewerRow : OpenClaim := { program := "ytogcdbodlomgeaa", sum := "49f556bde619e161e3a4779a7a6ae8e4498d3960120e317000a7d937ad71b960", func := "scupper/scupperlaw07.SnapNewer", spec := "snapNewer", apart := false }
def SnapNewerSaid : Prop := snapNewerRow.holds Try.pinned (OpenSpec.ofChange snapNewerSpec)

/-- ITS FALSE NEIGHBOUR: 'it returns false'. Refute it at one input. -/
def snapNewerWrong : ChangeSpec := { name := "snapNewer", fn := fun _ => fun
  | [d1, d2, d3, d4, d5] => { results := [.lit (.bool false)], args := [d1, d2, d3, d4, d5] }
  | _ => none }
def SnapNewerWrongFalsely : Prop := snapNewerRow.holds Try.pinned (OpenSpec.ofChange snapNewerWrong)

/-- 'scupperlaw07.SnapKeeps': WHATEVER THE INPUT: true; the input reads as it did. -/
def snapKeepsSpec : ChangeSpec := { name := "snapKeeps", fn := fun _ => fun
  | [d] => { results := [.lit (.bool true)], args := [d] }
  | _ => none }
def snapKeepsRow : OpenClaim := { program := "ytogcdbodlomgeaa", sum := "49f556bde619e161e3a4779a7a6ae8e4498d3960120e317000a7d937ad71b960", func := "scupper/scupperlaw07.SnapKeeps", spec := "snapKeeps", apart := false }
def SnapKeepsSaid : Prop := snapKeepsRow.holds Try.pinned (OpenSpec.ofChange snapKeepsSpec)

/-- ITS FALSE NEIGHBOUR: 'it returns false'. Refute it at one input. -/
def snapKeepsWrong : ChangeSpec := { name := "snapKeeps", fn := fun _ => fun
  | [d] => { results := [.lit (.bool false)], args := [d] }
  | _ => none }
def SnapKeepsWrongFalsely : Prop := snapKeepsRow.holds Try.pinned (OpenSpec.ofChange snapKeepsWrong)

/- THE SECOND FORM. 'bulk': how many values and letters a reading holds, each counted each time it is reached (what is shared counts as often as it is met; a slice's spare places count too). A statement '..UptoSaid' is the law's where the arguments, and the package variables that the reading takes, are together of bulk at most 1048576: NARROWER than '..Said'. Prove '..Said' where nothing that the law and all that it calls make is longer than what came in: it says more and counts as full. Else prove '..UptoSaid'. A law counts once. -/
mutual
def uptoBulk {H : Type} : DataW H → Nat
  | .lit (.string bytes) => bytes.length + 1
  | .lit _ => 1
  | .nil => 1
  | .ptr d => uptoBulk d + 1
  | .slice elems spare => uptoBulkAll elems + uptoBulkAll spare + 1
  | .agg parts => uptoBulkAll parts + 1
  | .iface _ d => uptoBulk d + 1
  | .map entries => uptoBulkEntries entries + 1
  | .held _ => 1
def uptoBulkAll {H : Type} : List (DataW H) → Nat
  | [] => 0
  | d :: r => uptoBulk d + uptoBulkAll r
def uptoBulkEntries {H : Type} : List (Lit × DataW H) → Nat
  | [] => 0
  | x :: r => uptoBulkEntry x + uptoBulkEntries r
def uptoBulkEntry {H : Type} : Lit × DataW H → Nat
  | (.string bytes, d) => bytes.length + uptoBulk d + 1
  | (_, d) => uptoBulk d + 1
 end
def uptoSmall : (H : Type) → List (DataW H) → Bool := fun _ ds => decide (uptoBulkAll ds ≤ 1048576)
def OpenSpec.upto (s : _root_.Go.ChangeSpec) : _root_.Go.OpenSpec := { _root_.Go.OpenSpec.ofChange s with cond := some uptoSmall }

/-- 'scupperlaw07.SnapCuts', WHERE WHAT IT READS IS OF BULK AT MOST 1048576: true; the input reads as it did. -/
def snapCutsUptoRow : OpenClaim := { program := "ytogcdbodlomgeaa", sum := "49f556bde619e161e3a4779a7a6ae8e4498d3960120e317000a7d937ad71b960", func := "scupper/scupperlaw07.SnapCuts", spec := "snapCuts", apart := false, narrowed := true }
def SnapCutsUptoSaid : Prop := snapCutsUptoRow.holds Try.pinned (OpenSpec.upto snapCutsSpec)

/-- 'scupperlaw01.SumTotal', WHERE WHAT IT READS IS OF BULK AT MOST 1048576: true; the input reads as it did. -/
def sumTotalUptoRow : OpenClaim := { program := "ytogcdbodlomgeaa", sum := "49f556bde619e161e3a4779a7a6ae8e4498d3960120e317000a7d937ad71b960", func := "scupper/scupperlaw01.SumTotal", spec := "sumTotal", apart := false, narrowed := true }
def SumTotalUptoSaid : Prop := sumTotalUptoRow.holds Try.pinned (OpenSpec.upto sumTotalSpec)

/-- 'scupperlaw01.SumTwo', WHERE WHAT IT READS IS OF BULK AT MOST 1048576: true; the input reads as it did. -/
def sumTwoUptoRow : OpenClaim := { program := "ytogcdbodlomgeaa", sum := "49f556bde619e161e3a4779a7a6ae8e4498d3960120e317000a7d937ad71b960", func := "scupper/scupperlaw01.SumTwo", spec := "sumTwo", apart := false, narrowed := true }
def SumTwoUptoSaid : Prop := sumTwoUptoRow.holds Try.pinned (OpenSpec.upto sumTwoSpec)

/-- 'scupperlaw01.SumParts', WHERE WHAT IT READS IS OF BULK AT MOST 1048576: true; the input reads as it did. -/
def sumPartsUptoRow : OpenClaim := { program := "ytogcdbodlomgeaa", sum := "49f556bde619e161e3a4779a7a6ae8e4498d3960120e317000a7d937ad71b960", func := "scupper/scupperlaw01.SumParts", spec := "sumParts", apart := false, narrowed := true }
def SumPartsUptoSaid : Prop := sumPartsUptoRow.holds Try.pinned (OpenSpec.upto sumPartsSpec)

/-- 'scupperlaw01.SumTrust', WHERE WHAT IT READS IS OF BULK AT MOST 1048576: true; the input reads as it did. -/
def sumTrustUptoRow : OpenClaim := { program := "ytogcdbodlomgeaa", sum := "49f556bde619e161e3a4779a7a6ae8e4498d3960120e317000a7d937ad71b960", func := "scupper/scupperlaw01.SumTrust", spec := "sumTrust", apart := false, narrowed := true }
def SumTrustUptoSaid : Prop := sumTrustUptoRow.holds Try.pinned (OpenSpec.upto sumTrustSpec)

/-- 'scupperlaw01.SumRing', WHERE WHAT IT READS IS OF BULK AT MOST 1048576: true; the input reads as it did. -/
def sumRingUptoRow : OpenClaim := { program := "ytogcdbodlomgeaa", sum := "49f556bde619e161e3a4779a7a6ae8e4498d3960120e317000a7d937ad71b960", func := "scupper/scupperlaw01.SumRing", spec := "sumRing", apart := false, narrowed := true }
def SumRingUptoSaid : Prop := sumRingUptoRow.holds Try.pinned (OpenSpec.upto sumRingSpec)

/-- 'scupperlaw01.SumDrift', WHERE WHAT IT READS IS OF BULK AT MOST 1048576: true; the input reads as it did. -/
def sumDriftUptoRow : OpenClaim := { program := "ytogcdbodlomgeaa", sum := "49f556bde619e161e3a4779a7a6ae8e4498d3960120e317000a7d937ad71b960", func := "scupper/scupperlaw01.SumDrift", spec := "sumDrift", apart := false, narrowed := true }
def SumDriftUptoSaid : Prop := sumDriftUptoRow.holds Try.pinned (OpenSpec.upto sumDriftSpec)

/-- 'scupperlaw01.SumOrder', WHERE WHAT IT READS IS OF BULK AT MOST 1048576: true; the input reads as it did. -/
def sumOrderUptoRow : OpenClaim := { program := "ytogcdbodlomgeaa", sum := "49f556bde619e161e3a4779a7a6ae8e4498d3960120e317000a7d937ad71b960", func := "scupper/scupperlaw01.SumOrder", spec := "sumOrder", apart := false, narrowed := true }
def SumOrderUptoSaid : Prop := sumOrderUptoRow.holds Try.pinned (OpenSpec.upto sumOrderSpec)

/-- 'scupperlaw07.SnapAdds', WHERE WHAT IT READS IS OF BULK AT MOST 1048576: true; the input reads as it did. -/
def snapAddsUptoRow : OpenClaim := { program := "ytogcdbodlomgeaa", sum := "49f556bde619e161e3a4779a7a6ae8e4498d3960120e317000a7d937ad71b960", func := "scupper/scupperlaw07.SnapAdds", spec := "snapAdds", apart := false, narrowed := true }
def SnapAddsUptoSaid : Prop := snapAddsUptoRow.holds Try.pinned (OpenSpec.upto snapAddsSpec)

/-- 'scupperlaw07.SnapWhole', WHERE WHAT IT READS IS OF BULK AT MOST 1048576: true; the input reads as it did. -/
def snapWholeUptoRow : OpenClaim := { program := "ytogcdbodlomgeaa", sum := "49f556bde619e161e3a4779a7a6ae8e4498d3960120e317000a7d937ad71b960", func := "scupper/scupperlaw07.SnapWhole", spec := "snapWhole", apart := false, narrowed := true }
def SnapWholeUptoSaid : Prop := snapWholeUptoRow.holds Try.pinned (OpenSpec.upto snapWholeSpec)

/-- 'scupperlaw07.SnapNewer', WHERE WHAT IT READS IS OF BULK AT MOST 1048576: true; the input reads as it did. -/
def snapNewerUptoRow : OpenClaim := { program := "ytogcdbodlomgeaa", sum := "49f556bde619e161e3a4779a7a6ae8e4498d3960120e317000a7d937ad71b960", func := "scupper/scupperlaw07.SnapNewer", spec := "snapNewer", apart := false, narrowed := true }
def SnapNewerUptoSaid : Prop := snapNewerUptoRow.holds Try.pinned (OpenSpec.upto snapNewerSpec)

/-- 'scupperlaw07.SnapKeeps', WHERE WHAT IT READS IS OF BULK AT MOST 1048576: true; the input reads as it did. -/
def snapKeepsUptoRow : OpenClaim := { program := "ytogcdbodlomgeaa", sum := "49f556bde619e161e3a4779a7a6ae8e4498d3960120e317000a7d937ad71b960", func := "scupper/scupperlaw07.SnapKeeps", spec := "snapKeeps", apart := false, narrowed := true }
def SnapKeepsUptoSaid : Prop := snapKeepsUptoRow.holds Try.pinned (OpenSpec.upto snapKeepsSpec)

end Rows
end Go.Proofs.Ytogcdbodlomgeaa
