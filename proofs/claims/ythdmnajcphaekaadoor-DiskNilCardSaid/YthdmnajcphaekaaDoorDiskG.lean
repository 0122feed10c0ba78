/- Contracts of package disk's after. -/
import Derived.Test.YthdmnajcphaekaaDoorDiskF
namespace Go.Proofs.YthdmnajcphaekaaDoor
open Go.RowKit

/-- A file's size behind a change. -/
def afterN (n : Nat) (w : Wr) : Nat := if w.kind = 1 then max n (w.off + w.data.length) else if w.kind = 2 then w.off else 0
set_option maxRecDepth 20000 in
set_option maxHeartbeats 2000000 in
theorem diskAfter (n : Nat) (c : Wr) (X : Option Addr) (cx : Nat) (w : World) (hn : n ≤ 140737488355328) (hk : c.kind = 1 ∨ c.kind = 2 ∨ c.kind = 3) (ho : c.off ≤ 4194304) (hd : c.data.length ≤ 140737488355328) :
    Calls Tryd.prog 50 #[.int .i64 (n : Int), .agg (wrV c X cx)] w fun e w' => e = .returned (.int .i64 (afterN n c : Int)) ∧ Below w.heap.size w w' := by
  have hal : Below w.heap.size w (w.alloc (.cells (wrV c X cx) 73)) := (Below.refl _ _).alloc (Nat.le_refl _) _
  have hx := Blk.new w (wrV c X cx) 73
  obtain ⟨kind, name, off, data⟩ := c
  simp only at *
  have y0 := hx.cell 0 rfl
  have y2 := hx.cell 2 rfl
  have y3 := hx.cell 3 rfl
  clear hx
  have h1 : afterN n ⟨1, name, off, data⟩ = max n (off + data.length) := rfl
  have h2 : afterN n ⟨2, name, off, data⟩ = off := rfl
  have h3 : afterN n ⟨3, name, off, data⟩ = 0 := rfl
  rcases hk with rfl | rfl | rfl
  · rw [h1]
    by_cases hm : n ≤ off + data.length
    · have hmx : (max n (off + data.length) : Nat) = off + data.length := by omega
      rw [hmx]
      clear h1 h2 h3 hmx
      go_enter Tryd.func50, Tryd.ntmps50
      go_wp2_with fail
      all_goals
        go_ret
        exact ⟨ret_intB (by omega), hal⟩
    · have hmx : (max n (off + data.length) : Nat) = n := by omega
      rw [hmx]
      clear h1 h2 h3 hmx
      go_enter Tryd.func50, Tryd.ntmps50
      go_wp2_with fail
      all_goals
        go_ret
        exact ⟨ret_intB (by omega), hal⟩
  · rw [h2]
    clear h1 h2 h3
    go_enter Tryd.func50, Tryd.ntmps50
    go_wp2_with fail
    go_ret
    exact ⟨rfl, hal⟩
  · rw [h3]
    clear h1 h2 h3
    go_enter Tryd.func50, Tryd.ntmps50
    go_wp2_with fail
    go_ret
    exact ⟨rfl, hal⟩
end Go.Proofs.YthdmnajcphaekaaDoor
