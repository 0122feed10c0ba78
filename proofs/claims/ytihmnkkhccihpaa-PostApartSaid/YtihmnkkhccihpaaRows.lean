/-
  No cell of these rows narrows 'for every input' (looked for: loops, veiled, ifaces, maps, wideKeys, modest, calm, conditions, laid).
  DERIVED. THE GIVEN ROWS OF THIS SEAT. 5 by the template 'for every input the law returns true; each argument reads behind the call as it read before'; 0 by the template 'total and deterministic' (their statements: YtihmnkkhccihpaaTotals.lean).
  GIVEN WITH THE SEED: the statements are not yours to turn. If you find one false, say at which input.
  Laid BY PROGRAM, IN A SANDBOX (cutbox-rows.mjs): the forced cells as the released guide's own fill.sh prints them over the translation 23fd4377aafae9a1… (all of the seat's roots in one cut). By AI agents, Wed Nov 11 2026. No macro, syntax, notation, axiom, sorry.
-/
import Derived.Test.YtihmnkkhccihpaaChecked
import GoSem.Claim
import GoSem.ClaimJoined
import GoSem.ClaimMapViews
import Derived.JoinedTies
import Derived.KernelRfl
namespace Go.Proofs.Ytihmnkkhccihpaa
/- THE CELL 'sum', in the pinned program and in every row, IS THE sha256 OF THE DUMP (.gsa) THAT YtihmnkkhccihpaaProg.lean LOADS. Nothing in Lean hashes anything: it is a label: what it is worth is what the hold of that sum in a sandbox is worth. -/
noncomputable def Try.pinned : Pinned := { name := "ytihmnkkhccihpaa", sum := "23fd4377aafae9a1e5010bd918299e717f0da2443e94f9e43293b5900739bd32", checked := Try.checked }
namespace Rows
def none {H : Type} : Left H := { results := [], args := [] }

/-- 'scupperlaw08.PostCuts': WHATEVER THE INPUT: true; the input reads as it did. -/
def postCutsSpec : ChangeSpec := { name := "postCuts", fn := fun _ => fun
  | [d1, d2, d3, d4] => { results := [.lit (.bool true)], args := [d1, d2, d3, d4] }
  | _ => none }
def postCutsRow : OpenClaim := { program := "ytihmnkkhccihpaa", sum := "23fd4377aafae9a1e5010bd918299e717f0da2443e94f9e43293b5900739bd32", func := "scupper/scupperlaw08.PostCuts", spec := "postCuts", plainKeys := false, apart := false }
def PostCutsSaid : Prop := postCutsRow.holds Try.pinned (OpenSpec.ofChange postCutsSpec)

/-- ITS FALSE NEIGHBOUR: 'it returns false'. Refute it at one input. -/
def postCutsWrong : ChangeSpec := { name := "postCuts", fn := fun _ => fun
  | [d1, d2, d3, d4] => { results := [.lit (.bool false)], args := [d1, d2, d3, d4] }
  | _ => none }
def PostCutsWrongFalsely : Prop := postCutsRow.holds Try.pinned (OpenSpec.ofChange postCutsWrong)

/-- 'scupperlaw08.PostOrder': WHATEVER THE INPUT: true; the input reads as it did. -/
def postOrderSpec : ChangeSpec := { name := "postOrder", fn := fun _ => fun
  | [d] => { results := [.lit (.bool true)], args := [d] }
  | _ => none }
def postOrderRow : OpenClaim := { program := "ytihmnkkhccihpaa", sum := "23fd4377aafae9a1e5010bd918299e717f0da2443e94f9e43293b5900739bd32", func := "scupper/scupperlaw08.PostOrder", spec := "postOrder", plainKeys := false, apart := false }
def PostOrderSaid : Prop := postOrderRow.holds Try.pinned (OpenSpec.ofChange postOrderSpec)

/-- ITS FALSE NEIGHBOUR: 'it returns false'. Refute it at one input. -/
def postOrderWrong : ChangeSpec := { name := "postOrder", fn := fun _ => fun
  | [d] => { results := [.lit (.bool false)], args := [d] }
  | _ => none }
def PostOrderWrongFalsely : Prop := postOrderRow.holds Try.pinned (OpenSpec.ofChange postOrderWrong)

/-- 'scupperlaw08.PostTwins': WHATEVER THE INPUT: true; the input reads as it did. -/
def postTwinsSpec : ChangeSpec := { name := "postTwins", fn := fun _ => fun
  | [d1, d2, d3] => { results := [.lit (.bool true)], args := [d1, d2, d3] }
  | _ => none }
def postTwinsRow : OpenClaim := { program := "ytihmnkkhccihpaa", sum := "23fd4377aafae9a1e5010bd918299e717f0da2443e94f9e43293b5900739bd32", func := "scupper/scupperlaw08.PostTwins", spec := "postTwins", plainKeys := false, apart := false }
def PostTwinsSaid : Prop := postTwinsRow.holds Try.pinned (OpenSpec.ofChange postTwinsSpec)

/-- ITS FALSE NEIGHBOUR: 'it returns false'. Refute it at one input. -/
def postTwinsWrong : ChangeSpec := { name := "postTwins", fn := fun _ => fun
  | [d1, d2, d3] => { results := [.lit (.bool false)], args := [d1, d2, d3] }
  | _ => none }
def PostTwinsWrongFalsely : Prop := postTwinsRow.holds Try.pinned (OpenSpec.ofChange postTwinsWrong)

/-- 'scupperlaw08.PostActs': WHATEVER THE INPUT: true; the input reads as it did. -/
def postActsSpec : ChangeSpec := { name := "postActs", fn := fun _ => fun
  | [d1, d2] => { results := [.lit (.bool true)], args := [d1, d2] }
  | _ => none }
def postActsRow : OpenClaim := { program := "ytihmnkkhccihpaa", sum := "23fd4377aafae9a1e5010bd918299e717f0da2443e94f9e43293b5900739bd32", func := "scupper/scupperlaw08.PostActs", spec := "postActs", inPlace := ["maps.clone"], plainKeys := false, apart := false }
def PostActsSaid : Prop := postActsRow.holds Try.pinned (OpenSpec.ofChange postActsSpec)

/-- ITS FALSE NEIGHBOUR: 'it returns false'. Refute it at one input. -/
def postActsWrong : ChangeSpec := { name := "postActs", fn := fun _ => fun
  | [d1, d2] => { results := [.lit (.bool false)], args := [d1, d2] }
  | _ => none }
def PostActsWrongFalsely : Prop := postActsRow.holds Try.pinned (OpenSpec.ofChange postActsWrong)

/-- 'scupperlaw08.PostApart': WHATEVER THE INPUT: true; the input reads as it did. -/
def postApartSpec : ChangeSpec := { name := "postApart", fn := fun _ => fun
  | [d1, d2, d3] => { results := [.lit (.bool true)], args := [d1, d2, d3] }
  | _ => none }
def postApartRow : OpenClaim := { program := "ytihmnkkhccihpaa", sum := "23fd4377aafae9a1e5010bd918299e717f0da2443e94f9e43293b5900739bd32", func := "scupper/scupperlaw08.PostApart", spec := "postApart", inPlace := ["maps.clone"], plainKeys := false, apart := false }
def PostApartSaid : Prop := postApartRow.holds Try.pinned (OpenSpec.ofChange postApartSpec)

/-- ITS FALSE NEIGHBOUR: 'it returns false'. Refute it at one input. -/
def postApartWrong : ChangeSpec := { name := "postApart", fn := fun _ => fun
  | [d1, d2, d3] => { results := [.lit (.bool false)], args := [d1, d2, d3] }
  | _ => none }
def PostApartWrongFalsely : Prop := postApartRow.holds Try.pinned (OpenSpec.ofChange postApartWrong)

/- THE SECOND FORM. 'bulk': how many values and letters a reading holds, each counted each time it is reached (what is shared counts as often as it is met; a slice's spare places count too). A statement '..UptoSaid' is the law's where the arguments, and the package variables that the reading takes, are together of bulk at most 1048576: NARROWER than '..Said'. Prove '..Said' where nothing that the law and all that it calls make is longer than what came in: it says more and counts as full. Else prove '..UptoSaid'. A law counts once. -/
mutual
def uptoBulk {H : Type} : DataW H → Nat
  | .lit (.string bytes) => bytes.length + 1
  | .lit _ => 1
  | .nil => 1
  | .ptr d => uptoBulk d + 1
  | .slice elems spare => uptoBulkAll elems + uptoBulkAll spare + 1
  | .agg parts => uptoBulkAll parts + 1
  | .iface _ d => uptoBulk d + 1
  | .map entries => uptoBulkEntries entries + 1
  | .held _ => 1
def uptoBulkAll {H : Type} : List (DataW H) → Nat
  | [] => 0
  | d :: r => uptoBulk d + uptoBulkAll r
def uptoBulkEntries {H : Type} : List (Lit × DataW H) → Nat
  | [] => 0
  | x :: r => uptoBulkEntry x + uptoBulkEntries r
def uptoBulkEntry {H : Type} : Lit × DataW H → Nat
  | (.string bytes, d) => bytes.length + uptoBulk d + 1
  | (_, d) => uptoBulk d + 1
 end
def uptoSmall : (H : Type) → List (DataW H) → Bool := fun _ ds => decide (uptoBulkAll ds ≤ 1048576)
def OpenSpec.upto (s : _root_.Go.ChangeSpec) : _root_.Go.OpenSpec := { _root_.Go.OpenSpec.ofChange s with cond := some uptoSmall }

/-- 'scupperlaw08.PostCuts', WHERE WHAT IT READS IS OF BULK AT MOST 1048576: true; the input reads as it did. -/
def postCutsUptoRow : OpenClaim := { program := "ytihmnkkhccihpaa", sum := "23fd4377aafae9a1e5010bd918299e717f0da2443e94f9e43293b5900739bd32", func := "scupper/scupperlaw08.PostCuts", spec := "postCuts", plainKeys := false, apart := false, narrowed := true }
def PostCutsUptoSaid : Prop := postCutsUptoRow.holds Try.pinned (OpenSpec.upto postCutsSpec)

/-- 'scupperlaw08.PostOrder', WHERE WHAT IT READS IS OF BULK AT MOST 1048576: true; the input reads as it did. -/
def postOrderUptoRow : OpenClaim := { program := "ytihmnkkhccihpaa", sum := "23fd4377aafae9a1e5010bd918299e717f0da2443e94f9e43293b5900739bd32", func := "scupper/scupperlaw08.PostOrder", spec := "postOrder", plainKeys := false, apart := false, narrowed := true }
def PostOrderUptoSaid : Prop := postOrderUptoRow.holds Try.pinned (OpenSpec.upto postOrderSpec)

/-- 'scupperlaw08.PostTwins', WHERE WHAT IT READS IS OF BULK AT MOST 1048576: true; the input reads as it did. -/
def postTwinsUptoRow : OpenClaim := { program := "ytihmnkkhccihpaa", sum := "23fd4377aafae9a1e5010bd918299e717f0da2443e94f9e43293b5900739bd32", func := "scupper/scupperlaw08.PostTwins", spec := "postTwins", plainKeys := false, apart := false, narrowed := true }
def PostTwinsUptoSaid : Prop := postTwinsUptoRow.holds Try.pinned (OpenSpec.upto postTwinsSpec)

/-- 'scupperlaw08.PostActs', WHERE WHAT IT READS IS OF BULK AT MOST 1048576: true; the input reads as it did. -/
def postActsUptoRow : OpenClaim := { program := "ytihmnkkhccihpaa", sum := "23fd4377aafae9a1e5010bd918299e717f0da2443e94f9e43293b5900739bd32", func := "scupper/scupperlaw08.PostActs", spec := "postActs", inPlace := ["maps.clone"], plainKeys := false, apart := false, narrowed := true }
def PostActsUptoSaid : Prop := postActsUptoRow.holds Try.pinned (OpenSpec.upto postActsSpec)

/-- 'scupperlaw08.PostApart', WHERE WHAT IT READS IS OF BULK AT MOST 1048576: true; the input reads as it did. -/
def postApartUptoRow : OpenClaim := { program := "ytihmnkkhccihpaa", sum := "23fd4377aafae9a1e5010bd918299e717f0da2443e94f9e43293b5900739bd32", func := "scupper/scupperlaw08.PostApart", spec := "postApart", inPlace := ["maps.clone"], plainKeys := false, apart := false, narrowed := true }
def PostApartUptoSaid : Prop := postApartUptoRow.holds Try.pinned (OpenSpec.upto postApartSpec)

end Rows
end Go.Proofs.Ytihmnkkhccihpaa
