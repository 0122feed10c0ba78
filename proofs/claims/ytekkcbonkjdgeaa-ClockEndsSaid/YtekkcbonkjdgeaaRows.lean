/-
  No cell of these rows narrows 'for every input' (looked for: loops, veiled, ifaces, maps, wideKeys, modest, calm, conditions, laid).
  DERIVED. THE GIVEN ROWS OF THIS SEAT. 11 by the template 'for every input the law returns true; each argument reads behind the call as it read before'; 0 by the template 'total and deterministic' (their statements: YtekkcbonkjdgeaaTotals.lean).
  GIVEN WITH THE SEED: the statements are not yours to turn. If you find one false, say at which input.
  Laid BY PROGRAM, IN A SANDBOX (cutbox-rows.mjs): the forced cells as the released guide's own fill.sh prints them over the translation b2a1806f19eec999… (all of the seat's roots in one cut). By AI agents, Wed Nov 11 2026. No macro, syntax, notation, axiom, sorry.
-/
import Derived.Test.YtekkcbonkjdgeaaChecked
import GoSem.Claim
import GoSem.ClaimJoined
import GoSem.ClaimMapViews
import Derived.JoinedTies
import Derived.KernelRfl
namespace Go.Proofs.Ytekkcbonkjdgeaa
/- THE CELL 'sum', in the pinned program and in every row, IS THE sha256 OF THE DUMP (.gsa) THAT YtekkcbonkjdgeaaProg.lean LOADS. Nothing in Lean hashes anything: it is a label: what it is worth is what the hold of that sum in a sandbox is worth. -/
noncomputable def Try.pinned : Pinned := { name := "ytekkcbonkjdgeaa", sum := "b2a1806f19eec99909af972dc66037deafca8f14b570a60633c0a8cd16562cd5", checked := Try.checked }
namespace Rows
def none {H : Type} : Left H := { results := [], args := [] }

/-- 'scupperlaw02.CodecParts': WHATEVER THE INPUT: true; the input reads as it did. -/
def codecPartsSpec : ChangeSpec := { name := "codecParts", fn := fun _ => fun
  | [d1, d2] => { results := [.lit (.bool true)], args := [d1, d2] }
  | _ => none }
def codecPartsRow : OpenClaim := { program := "ytekkcbonkjdgeaa", sum := "b2a1806f19eec99909af972dc66037deafca8f14b570a60633c0a8cd16562cd5", func := "scupper/scupperlaw02.CodecParts", spec := "codecParts", apart := false }
def CodecPartsSaid : Prop := codecPartsRow.holds Try.pinned (OpenSpec.ofChange codecPartsSpec)

/-- ITS FALSE NEIGHBOUR: 'it returns false'. Refute it at one input. -/
def codecPartsWrong : ChangeSpec := { name := "codecParts", fn := fun _ => fun
  | [d1, d2] => { results := [.lit (.bool false)], args := [d1, d2] }
  | _ => none }
def CodecPartsWrongFalsely : Prop := codecPartsRow.holds Try.pinned (OpenSpec.ofChange codecPartsWrong)

/-- 'scupperlaw02.CodecWrites': WHATEVER THE INPUT: true; the input reads as it did. -/
def codecWritesSpec : ChangeSpec := { name := "codecWrites", fn := fun _ => fun
  | [d1, d2, d3] => { results := [.lit (.bool true)], args := [d1, d2, d3] }
  | _ => none }
def codecWritesRow : OpenClaim := { program := "ytekkcbonkjdgeaa", sum := "b2a1806f19eec99909af972dc66037deafca8f14b570a60633c0a8cd16562cd5", func := "scupper/scupperlaw02.CodecWrites", spec := "codecWrites", apart := false }
def CodecWritesSaid : Prop := codecWritesRow.holds Try.pinned (OpenSpec.ofChange codecWritesSpec)

/-- ITS FALSE NEIGHBOUR: 'it returns false'. Refute it at one input. -/
def codecWritesWrong : ChangeSpec := { name := "codecWrites", fn := fun _ => fun
  | [d1, d2, d3] => { results := [.lit (.bool false)], args := [d1, d2, d3] }
  | _ => none }
def CodecWritesWrongFalsely : Prop := codecWritesRow.holds Try.pinned (OpenSpec.ofChange codecWritesWrong)

/-- 'scupperlaw02.CodecSums': WHATEVER THE INPUT: true; the input reads as it did. -/
def codecSumsSpec : ChangeSpec := { name := "codecSums", fn := fun _ => fun
  | [d] => { results := [.lit (.bool true)], args := [d] }
  | _ => none }
def codecSumsRow : OpenClaim := { program := "ytekkcbonkjdgeaa", sum := "b2a1806f19eec99909af972dc66037deafca8f14b570a60633c0a8cd16562cd5", func := "scupper/scupperlaw02.CodecSums", spec := "codecSums", apart := false }
def CodecSumsSaid : Prop := codecSumsRow.holds Try.pinned (OpenSpec.ofChange codecSumsSpec)

/-- ITS FALSE NEIGHBOUR: 'it returns false'. Refute it at one input. -/
def codecSumsWrong : ChangeSpec := { name := "codecSums", fn := fun _ => fun
  | [d] => { results := [.lit (.bool false)], args := [d] }
  | _ => none }
def CodecSumsWrongFalsely : Prop := codecSumsRow.holds Try.pinned (OpenSpec.ofChange codecSumsWrong)

/-- 'scupperlaw09.ClockDrift': WHATEVER THE INPUT: true; the input reads as it did. -/
def clockDriftSpec : ChangeSpec := { name := "clockDrift", fn := fun _ => fun
  | [d1, d2, d3] => { results := [.lit (.bool true)], args := [d1, d2, d3] }
  | _ => none }
def clockDriftRow : OpenClaim := { program := "ytekkcbonkjdgeaa", sum := "b2a1806f19eec99909af972dc66037deafca8f14b570a60633c0a8cd16562cd5", func := "scupper/scupperlaw09.ClockDrift", spec := "clockDrift", apart := false }
def ClockDriftSaid : Prop := clockDriftRow.holds Try.pinned (OpenSpec.ofChange clockDriftSpec)

/-- ITS FALSE NEIGHBOUR: 'it returns false'. Refute it at one input. -/
def clockDriftWrong : ChangeSpec := { name := "clockDrift", fn := fun _ => fun
  | [d1, d2, d3] => { results := [.lit (.bool false)], args := [d1, d2, d3] }
  | _ => none }
def ClockDriftWrongFalsely : Prop := clockDriftRow.holds Try.pinned (OpenSpec.ofChange clockDriftWrong)

/-- 'scupperlaw09.ClockTrust': WHATEVER THE INPUT: true; the input reads as it did. -/
def clockTrustSpec : ChangeSpec := { name := "clockTrust", fn := fun _ => fun
  | [d1, d2, d3] => { results := [.lit (.bool true)], args := [d1, d2, d3] }
  | _ => none }
def clockTrustRow : OpenClaim := { program := "ytekkcbonkjdgeaa", sum := "b2a1806f19eec99909af972dc66037deafca8f14b570a60633c0a8cd16562cd5", func := "scupper/scupperlaw09.ClockTrust", spec := "clockTrust", apart := false }
def ClockTrustSaid : Prop := clockTrustRow.holds Try.pinned (OpenSpec.ofChange clockTrustSpec)

/-- ITS FALSE NEIGHBOUR: 'it returns false'. Refute it at one input. -/
def clockTrustWrong : ChangeSpec := { name := "clockTrust", fn := fun _ => fun
  | [d1, d2, d3] => { results := [.lit (.bool false)], args := [d1, d2, d3] }
  | _ => none }
def ClockTrustWrongFalsely : Prop := clockTrustRow.holds Try.pinned (OpenSpec.ofChange clockTrustWrong)

/-- 'scupperlaw02.CodecBits': WHATEVER THE INPUT: true; the input reads as it did. -/
def codecBitsSpec : ChangeSpec := { name := "codecBits", fn := fun _ => fun
  | [d1, d2] => { results := [.lit (.bool true)], args := [d1, d2] }
  | _ => none }
def codecBitsRow : OpenClaim := { program := "ytekkcbonkjdgeaa", sum := "b2a1806f19eec99909af972dc66037deafca8f14b570a60633c0a8cd16562cd5", func := "scupper/scupperlaw02.CodecBits", spec := "codecBits", apart := false }
def CodecBitsSaid : Prop := codecBitsRow.holds Try.pinned (OpenSpec.ofChange codecBitsSpec)

/-- ITS FALSE NEIGHBOUR: 'it returns false'. Refute it at one input. -/
def codecBitsWrong : ChangeSpec := { name := "codecBits", fn := fun _ => fun
  | [d1, d2] => { results := [.lit (.bool false)], args := [d1, d2] }
  | _ => none }
def CodecBitsWrongFalsely : Prop := codecBitsRow.holds Try.pinned (OpenSpec.ofChange codecBitsWrong)

/-- 'scupperlaw02.CodecKeeps': WHATEVER THE INPUT: true; the input reads as it did. -/
def codecKeepsSpec : ChangeSpec := { name := "codecKeeps", fn := fun _ => fun
  | [d1, d2] => { results := [.lit (.bool true)], args := [d1, d2] }
  | _ => none }
def codecKeepsRow : OpenClaim := { program := "ytekkcbonkjdgeaa", sum := "b2a1806f19eec99909af972dc66037deafca8f14b570a60633c0a8cd16562cd5", func := "scupper/scupperlaw02.CodecKeeps", spec := "codecKeeps", apart := false }
def CodecKeepsSaid : Prop := codecKeepsRow.holds Try.pinned (OpenSpec.ofChange codecKeepsSpec)

/-- ITS FALSE NEIGHBOUR: 'it returns false'. Refute it at one input. -/
def codecKeepsWrong : ChangeSpec := { name := "codecKeeps", fn := fun _ => fun
  | [d1, d2] => { results := [.lit (.bool false)], args := [d1, d2] }
  | _ => none }
def CodecKeepsWrongFalsely : Prop := codecKeepsRow.holds Try.pinned (OpenSpec.ofChange codecKeepsWrong)

/-- 'scupperlaw09.ClockActs': WHATEVER THE INPUT: true; the input reads as it did. -/
def clockActsSpec : ChangeSpec := { name := "clockActs", fn := fun _ => fun
  | [d1, d2, d3, d4] => { results := [.lit (.bool true)], args := [d1, d2, d3, d4] }
  | _ => none }
def clockActsRow : OpenClaim := { program := "ytekkcbonkjdgeaa", sum := "b2a1806f19eec99909af972dc66037deafca8f14b570a60633c0a8cd16562cd5", func := "scupper/scupperlaw09.ClockActs", spec := "clockActs", inPlace := ["maps.clone"], apart := false }
def ClockActsSaid : Prop := clockActsRow.holds Try.pinned (OpenSpec.ofChange clockActsSpec)

/-- ITS FALSE NEIGHBOUR: 'it returns false'. Refute it at one input. -/
def clockActsWrong : ChangeSpec := { name := "clockActs", fn := fun _ => fun
  | [d1, d2, d3, d4] => { results := [.lit (.bool false)], args := [d1, d2, d3, d4] }
  | _ => none }
def ClockActsWrongFalsely : Prop := clockActsRow.holds Try.pinned (OpenSpec.ofChange clockActsWrong)

/-- 'scupperlaw09.ClockEnds': WHATEVER THE INPUT: true; the input reads as it did. -/
def clockEndsSpec : ChangeSpec := { name := "clockEnds", fn := fun _ => fun
  | [d1, d2, d3] => { results := [.lit (.bool true)], args := [d1, d2, d3] }
  | _ => none }
def clockEndsRow : OpenClaim := { program := "ytekkcbonkjdgeaa", sum := "b2a1806f19eec99909af972dc66037deafca8f14b570a60633c0a8cd16562cd5", func := "scupper/scupperlaw09.ClockEnds", spec := "clockEnds", inPlace := ["maps.clone"], apart := false }
def ClockEndsSaid : Prop := clockEndsRow.holds Try.pinned (OpenSpec.ofChange clockEndsSpec)

/-- ITS FALSE NEIGHBOUR: 'it returns false'. Refute it at one input. -/
def clockEndsWrong : ChangeSpec := { name := "clockEnds", fn := fun _ => fun
  | [d1, d2, d3] => { results := [.lit (.bool false)], args := [d1, d2, d3] }
  | _ => none }
def ClockEndsWrongFalsely : Prop := clockEndsRow.holds Try.pinned (OpenSpec.ofChange clockEndsWrong)

/-- 'scupperlaw02.CodecReads': WHATEVER THE INPUT: true; the input reads as it did. -/
def codecReadsSpec : ChangeSpec := { name := "codecReads", fn := fun _ => fun
  | [d1, d2] => { results := [.lit (.bool true)], args := [d1, d2] }
  | _ => none }
def codecReadsRow : OpenClaim := { program := "ytekkcbonkjdgeaa", sum := "b2a1806f19eec99909af972dc66037deafca8f14b570a60633c0a8cd16562cd5", func := "scupper/scupperlaw02.CodecReads", spec := "codecReads", apart := false }
def CodecReadsSaid : Prop := codecReadsRow.holds Try.pinned (OpenSpec.ofChange codecReadsSpec)

/-- ITS FALSE NEIGHBOUR: 'it returns false'. Refute it at one input. -/
def codecReadsWrong : ChangeSpec := { name := "codecReads", fn := fun _ => fun
  | [d1, d2] => { results := [.lit (.bool false)], args := [d1, d2] }
  | _ => none }
def CodecReadsWrongFalsely : Prop := codecReadsRow.holds Try.pinned (OpenSpec.ofChange codecReadsWrong)

/-- 'scupperlaw02.CodecBack': WHATEVER THE INPUT: true; the input reads as it did. -/
def codecBackSpec : ChangeSpec := { name := "codecBack", fn := fun _ => fun
  | [d1, d2, d3, d4] => { results := [.lit (.bool true)], args := [d1, d2, d3, d4] }
  | _ => none }
def codecBackRow : OpenClaim := { program := "ytekkcbonkjdgeaa", sum := "b2a1806f19eec99909af972dc66037deafca8f14b570a60633c0a8cd16562cd5", func := "scupper/scupperlaw02.CodecBack", spec := "codecBack", apart := false }
def CodecBackSaid : Prop := codecBackRow.holds Try.pinned (OpenSpec.ofChange codecBackSpec)

/-- ITS FALSE NEIGHBOUR: 'it returns false'. Refute it at one input. -/
def codecBackWrong : ChangeSpec := { name := "codecBack", fn := fun _ => fun
  | [d1, d2, d3, d4] => { results := [.lit (.bool false)], args := [d1, d2, d3, d4] }
  | _ => none }
def CodecBackWrongFalsely : Prop := codecBackRow.holds Try.pinned (OpenSpec.ofChange codecBackWrong)

/- THE SECOND FORM. 'bulk': how many values and letters a reading holds, each counted each time it is reached (what is shared counts as often as it is met; a slice's spare places count too). A statement '..UptoSaid' is the law's where the arguments, and the package variables that the reading takes, are together of bulk at most 1048576: NARROWER than '..Said'. Prove '..Said' where nothing that the law and all that it calls make is longer than what came in: it says more and counts as full. Else prove '..UptoSaid'. A law counts once. -/
mutual
def uptoBulk {H : Type} : DataW H → Nat
  | .lit (.string bytes) => bytes.length + 1
  | .lit _ => 1
  | .nil => 1
  | .ptr d => uptoBulk d + 1
  | .slice elems spare => uptoBulkAll elems + uptoBulkAll spare + 1
  | .agg parts => uptoBulkAll parts + 1
  | .iface _ d => uptoBulk d + 1
  | .map entries => uptoBulkEntries entries + 1
  | .held _ => 1
def uptoBulkAll {H : Type} : List (DataW H) → Nat
  | [] => 0
  | d :: r => uptoBulk d + uptoBulkAll r
def uptoBulkEntries {H : Type} : List (Lit × DataW H) → Nat
  | [] => 0
  | x :: r => uptoBulkEntry x + uptoBulkEntries r
def uptoBulkEntry {H : Type} : Lit × DataW H → Nat
  | (.string bytes, d) => bytes.length + uptoBulk d + 1
  | (_, d) => uptoBulk d + 1
 end
def uptoSmall : (H : Type) → List (DataW H) → Bool := fun _ ds => decide (uptoBulkAll ds ≤ 1048576)
def OpenSpec.upto (s : _root_.Go.ChangeSpec) : _root_.Go.OpenSpec := { _root_.Go.OpenSpec.ofChange s with cond := some uptoSmall }

/-- 'scupperlaw02.CodecParts', WHERE WHAT IT READS IS OF BULK AT MOST 1048576: true; the input reads as it did. -/
def codecPartsUptoRow : OpenClaim := { program := "ytekkcbonkjdgeaa", sum := "b2a1806f19eec99909af972dc66037deafca8f14b570a60633c0a8cd16562cd5", func := "scupper/scupperlaw02.CodecParts", spec := "codecParts", apart := false, narrowed := true }
def CodecPartsUptoSaid : Prop := codecPartsUptoRow.holds Try.pinned (OpenSpec.upto codecPartsSpec)

/-- 'scupperlaw02.CodecWrites', WHERE WHAT IT READS IS OF BULK AT MOST 1048576: true; the input reads as it did. -/
def codecWritesUptoRow : OpenClaim := { program := "ytekkcbonkjdgeaa", sum := "b2a1806f19eec99909af972dc66037deafca8f14b570a60633c0a8cd16562cd5", func := "scupper/scupperlaw02.CodecWrites", spec := "codecWrites", apart := false, narrowed := true }
def CodecWritesUptoSaid : Prop := codecWritesUptoRow.holds Try.pinned (OpenSpec.upto codecWritesSpec)

/-- 'scupperlaw02.CodecSums', WHERE WHAT IT READS IS OF BULK AT MOST 1048576: true; the input reads as it did. -/
def codecSumsUptoRow : OpenClaim := { program := "ytekkcbonkjdgeaa", sum := "b2a1806f19eec99909af972dc66037deafca8f14b570a60633c0a8cd16562cd5", func := "scupper/scupperlaw02.CodecSums", spec := "codecSums", apart := false, narrowed := true }
def CodecSumsUptoSaid : Prop := codecSumsUptoRow.holds Try.pinned (OpenSpec.upto codecSumsSpec)

/-- 'scupperlaw09.ClockDrift', WHERE WHAT IT READS IS OF BULK AT MOST 1048576: true; the input reads as it did. -/
def clockDriftUptoRow : OpenClaim := { program := "ytekkcbonkjdgeaa", sum := "b2a1806f19eec99909af972dc66037deafca8f14b570a60633c0a8cd16562cd5", func := "scupper/scupperlaw09.ClockDrift", spec := "clockDrift", apart := false, narrowed := true }
def ClockDriftUptoSaid : Prop := clockDriftUptoRow.holds Try.pinned (OpenSpec.upto clockDriftSpec)

/-- 'scupperlaw09.ClockTrust', WHERE WHAT IT READS IS OF BULK AT MOST 1048576: true; the input reads as it did. -/
def clockTrustUptoRow : OpenClaim := { program := "ytekkcbonkjdgeaa", sum := "b2a1806f19eec99909af972dc66037deafca8f14b570a60633c0a8cd16562cd5", func := "scupper/scupperlaw09.ClockTrust", spec := "clockTrust", apart := false, narrowed := true }
def ClockTrustUptoSaid : Prop := clockTrustUptoRow.holds Try.pinned (OpenSpec.upto clockTrustSpec)

/-- 'scupperlaw02.CodecBits', WHERE WHAT IT READS IS OF BULK AT MOST 1048576: true; the input reads as it did. -/
def codecBitsUptoRow : OpenClaim := { program := "ytekkcbonkjdgeaa", sum := "b2a1806f19eec99909af972dc66037deafca8f14b570a60633c0a8cd16562cd5", func := "scupper/scupperlaw02.CodecBits", spec := "codecBits", apart := false, narrowed := true }
def CodecBitsUptoSaid : Prop := codecBitsUptoRow.holds Try.pinned (OpenSpec.upto codecBitsSpec)

/-- 'scupperlaw02.CodecKeeps', WHERE WHAT IT READS IS OF BULK AT MOST 1048576: true; the input reads as it did. -/
def codecKeepsUptoRow : OpenClaim := { program := "ytekkcbonkjdgeaa", sum := "b2a1806f19eec99909af972dc66037deafca8f14b570a60633c0a8cd16562cd5", func := "scupper/scupperlaw02.CodecKeeps", spec := "codecKeeps", apart := false, narrowed := true }
def CodecKeepsUptoSaid : Prop := codecKeepsUptoRow.holds Try.pinned (OpenSpec.upto codecKeepsSpec)

/-- 'scupperlaw09.ClockActs', WHERE WHAT IT READS IS OF BULK AT MOST 1048576: true; the input reads as it did. -/
def clockActsUptoRow : OpenClaim := { program := "ytekkcbonkjdgeaa", sum := "b2a1806f19eec99909af972dc66037deafca8f14b570a60633c0a8cd16562cd5", func := "scupper/scupperlaw09.ClockActs", spec := "clockActs", inPlace := ["maps.clone"], apart := false, narrowed := true }
def ClockActsUptoSaid : Prop := clockActsUptoRow.holds Try.pinned (OpenSpec.upto clockActsSpec)

/-- 'scupperlaw09.ClockEnds', WHERE WHAT IT READS IS OF BULK AT MOST 1048576: true; the input reads as it did. -/
def clockEndsUptoRow : OpenClaim := { program := "ytekkcbonkjdgeaa", sum := "b2a1806f19eec99909af972dc66037deafca8f14b570a60633c0a8cd16562cd5", func := "scupper/scupperlaw09.ClockEnds", spec := "clockEnds", inPlace := ["maps.clone"], apart := false, narrowed := true }
def ClockEndsUptoSaid : Prop := clockEndsUptoRow.holds Try.pinned (OpenSpec.upto clockEndsSpec)

/-- 'scupperlaw02.CodecReads', WHERE WHAT IT READS IS OF BULK AT MOST 1048576: true; the input reads as it did. -/
def codecReadsUptoRow : OpenClaim := { program := "ytekkcbonkjdgeaa", sum := "b2a1806f19eec99909af972dc66037deafca8f14b570a60633c0a8cd16562cd5", func := "scupper/scupperlaw02.CodecReads", spec := "codecReads", apart := false, narrowed := true }
def CodecReadsUptoSaid : Prop := codecReadsUptoRow.holds Try.pinned (OpenSpec.upto codecReadsSpec)

/-- 'scupperlaw02.CodecBack', WHERE WHAT IT READS IS OF BULK AT MOST 1048576: true; the input reads as it did. -/
def codecBackUptoRow : OpenClaim := { program := "ytekkcbonkjdgeaa", sum := "b2a1806f19eec99909af972dc66037deafca8f14b570a60633c0a8cd16562cd5", func := "scupper/scupperlaw02.CodecBack", spec := "codecBack", apart := false, narrowed := true }
def CodecBackUptoSaid : Prop := codecBackUptoRow.holds Try.pinned (OpenSpec.upto codecBackSpec)

end Rows
end Go.Proofs.Ytekkcbonkjdgeaa
