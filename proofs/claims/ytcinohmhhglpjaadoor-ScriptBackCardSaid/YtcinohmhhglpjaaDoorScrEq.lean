/- '==' of commands, of acts. -/
import Derived.Test.YtcinohmhhglpjaaDoorScrRA
namespace Go.Proofs.YtcinohmhhglpjaaDoor
open Go.RowKit

theorem cmd_eq (c d : Cm) (w : World) (n : Nat) : (Op.equalIn (n + 2) 33 (.agg c.cells.toArray) (.agg d.cells.toArray)).run Tryd.prog w = .ok (decide (c = d)) w := by
  have u1 := Tryd.underlying3
  have a1 := Tryd.isAgg3
  have z1 := Tryd.sizeOf3
  have u2 := Tryd.underlying2
  have a2 := Tryd.isAgg2
  have z2 := Tryd.sizeOf2
  have u3 := Tryd.underlying31
  have a3 := Tryd.isAgg31
  have z3 := Tryd.sizeOf31
  have u4 := Tryd.underlying9
  have a4 := Tryd.isAgg9
  have z4 := Tryd.sizeOf9
  have hS := Tryd.underlying33
  unfold Op.equalIn
  simp only [Sem.run_bind, run_underlying hS, Result.andThen_ok]
  unfold Cm.cells
  go_simp
  by_cases h : c = d
  · subst h; simp
  · rw [decide_eq_false h]
    have hn : ¬ (c.ses = d.ses ∧ c.seq = d.seq ∧ c.op = d.op ∧ c.key = d.key ∧ c.amount = d.amount ∧ c.span = d.span ∧ c.lease = d.lease) := fun e => h (Cm.ext_iff'.2 e)
    by_cases h1 : c.ses = d.ses
    · by_cases h2 : c.seq = d.seq
      · by_cases h3 : c.op = d.op
        · by_cases h4 : c.key = d.key
          · by_cases h5 : c.amount = d.amount
            · by_cases h6 : c.span = d.span
              · by_cases h7 : c.lease = d.lease
                · exact absurd ⟨h1, h2, h3, h4, h5, h6, h7⟩ hn
                · simp [h1, h2, h3, h4, h5, h6, h7]
              · simp [h1, h2, h3, h4, h5, h6]
            · simp [h1, h2, h3, h4, h5]
          · simp [h1, h2, h3, h4]
        · simp [h1, h2, h3]
      · simp [h1, h2]
    · simp [h1]
theorem act_eq (a : Ap) (w : World) : (Op.equalIn 10000 35 (.agg a.cells.toArray) (.agg a.cells.toArray)).run Tryd.prog w = .ok true w := by
  have u1 := Tryd.underlying3
  have a1 := Tryd.isAgg3
  have z1 := Tryd.sizeOf3
  have u2 := Tryd.underlying2
  have a2 := Tryd.isAgg2
  have z2 := Tryd.sizeOf2
  have u3 := Tryd.underlying31
  have a3 := Tryd.isAgg31
  have z3 := Tryd.sizeOf31
  have u4 := Tryd.underlying9
  have a4 := Tryd.isAgg9
  have z4 := Tryd.sizeOf9
  have hS := Tryd.underlying35
  have hC := cmd_eq a.cmd a.cmd
  rw [show (10000 : Nat) = 9999 + 1 from rfl]
  unfold Op.equalIn
  simp only [Sem.run_bind, run_underlying hS, Result.andThen_ok]
  unfold Ap.cells
  unfold Cm.cells at *
  go_simp
end Go.Proofs.YtcinohmhhglpjaaDoor
