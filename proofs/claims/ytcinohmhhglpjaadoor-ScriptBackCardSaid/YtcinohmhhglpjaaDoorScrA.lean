/- Contracts of package script: the word of a writer. -/
import Derived.Test.YtcinohmhhglpjaaDoorScrB
import Derived.Test.YtcinohmhhglpjaaDoorScrNum
namespace Go.Proofs.YtcinohmhhglpjaaDoor
open Go.RowKit

abbrev Tw : TypeId := 73

set_option maxRecDepth 20000 in
set_option maxHeartbeats 2000000 in
theorem wordW (B b : Nat) (l s : List UInt8) (w : World) (h : WB w Tw B b l) (hlen : l.length + s.length + 1 ≤ 140737488355328) (hBw : B ≤ w.heap.size) :
    Calls Tryd.prog 28 #[.pointer (some ⟨b, 0, none⟩), .string ⟨s.toArray⟩] w fun e w' => e = .returned (.tuple #[]) ∧ WB w' Tw B b (addw l s) ∧ Kp B b w w' := by
  by_cases hl : l = []
  · subst hl
    rw [addw_nil]
    go_enter Tryd.func28, Tryd.ntmps28
    go_wp2_with (go_at_call 24; refine (lenW Tw B b [] _ h).mono ?_)
    rintro e w1 ⟨rfl, rfl⟩
    go_wp2_with (go_at_call 22; refine (writeStringW Tw bt_writer B b [] s _ h (by simp at hlen ⊢; omega) hBw).mono ?_)
    rintro e w2 ⟨rfl, h2, k2⟩
    go_wp2_with fail
    go_end0
    exact ⟨rfl, h2, k2⟩
  · rw [addw_ne hl]
    have hpos : 0 < l.length := List.length_pos_iff.2 hl
    go_enter Tryd.func28, Tryd.ntmps28
    go_wp2_with (go_at_call 24; refine (lenW Tw B b l _ h).mono ?_)
    rintro e w1 ⟨rfl, rfl⟩
    go_wp2_with (go_at_call 59; refine (writeByteW Tw bt_writer B b l 32 _ _ h (by omega) hBw rfl).mono ?_)
    rintro e w2 ⟨rfl, h2, k2⟩
    go_wp2_with (go_at_call 22; refine (writeStringW Tw bt_writer B b (l ++ [32]) s _ h2 (by simp; omega) (by have := k2.size; omega)).mono ?_)
    rintro e w3 ⟨rfl, h3, k3⟩
    go_wp2_with fail
    go_end0
    refine ⟨rfl, ?_, k2.trans k3⟩
    simpa using h3
end Go.Proofs.YtcinohmhhglpjaaDoor
