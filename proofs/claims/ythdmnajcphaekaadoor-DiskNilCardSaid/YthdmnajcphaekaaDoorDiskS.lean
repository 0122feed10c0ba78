/- Plain: what a Sync and a Read of a disk answer. -/
import Derived.Test.YthdmnajcphaekaaDoorDiskK
import Derived.Test.YthdmnajcphaekaaDoorFallNum
namespace Go.Proofs.YthdmnajcphaekaaDoor
open Go.RowKit

theorem burnD_ok {D : DSt} (h : D.ok) : (burnD D).ok := by
  unfold burnD
  split
  · rename_i hf
    exact ⟨h.1, ⟨by have := h.2.1.1; simp only; omega, by have := h.2.1.2; simp only; omega⟩, h.2.2⟩
  · exact h
/-- What a Sync answers, and what is behind it. -/
def syncD (D : DSt) : Int × DSt := if D.down = true then (11, D) else if (burnD D).down = true then (11, burnD D) else (0, { burnD D with sure := D.files, unsure := [] })
/-- What a Read answers. -/
def readE (D : DSt) (name : Nm) : Int := if D.down = true then 11 else if nameOk name = false then 1 else if (fget D.files name).isSome = true then 0 else 8
def readB (D : DSt) (name : Nm) : List UInt8 := if readE D name = 0 then (fget D.files name).getD [] else []
def ReadEnd (w : World) (D : DSt) (name : Nm) (e : Ending) (w' : World) : Prop :=
  ∃ A c, e = .returned (.tuple #[.slice A (readB D name).length c, .int .i64 (readE D name)]) ∧ OB w' w.heap.size A c (readB D name) ∧ Below w.heap.size w w'
theorem readEnd_err {w w' : World} {D : DSt} {name : Nm} {k : Int} (h : readE D name = k) (hk : k ≠ 0) (hb : Below w.heap.size w w') : ReadEnd w D name (.returned (.tuple #[.slice none 0 0, .int .i64 k])) w' := by
  have hB : readB D name = [] := by unfold readB; rw [h, if_neg hk]
  exact ⟨none, 0, by rw [hB, h]; rfl, by rw [hB]; exact OB.nil _ _, hb⟩
/-- A disk behind a fall. -/
def fallD (D : DSt) (mask : Nat) (torn : Int) : DSt := { D with sure := (fallUs mask torn D.unsure).foldl doF D.sure, unsure := [], fuse := 0, down := false }
end Go.Proofs.YthdmnajcphaekaaDoor
