/- A variable of several cells in a block of its own: what its cells hold, that they may be written, what the block is behind a store. -/
import Derived.Test.YtcinohmhhglpjaaDoorMem
import Derived.Laws.CopyOwn
namespace Go.Proofs.YtcinohmhhglpjaaDoor
open Go.RowKit

/-- Block g holds these cells, a variable of type T. -/
def Blk (w : World) (g : Nat) (T : TypeId) (cs : Array Value) : Prop := w.heap[g]? = some (.cells cs T (0, 0))

section
variable {w w' : World} {g : Nat} {T : TypeId} {cs : Array Value}
theorem Blk.new (w : World) (cs : Array Value) (T : TypeId) : Blk (w.alloc (.cells cs T)) w.heap.size T cs := heap_alloc_new w _
theorem Blk.lt (h : Blk w g T cs) : g < w.heap.size := lt_of_block h
theorem Blk.cell (h : Blk w g T cs) (j : Nat) {v : Value} (hv : cs[j]? = some v) : w.cell? ⟨g, j, none⟩ = some v := by
  rw [cell_of_row w g j cs T (0, 0) h]; exact hv
theorem Blk.free (h : Blk w g T cs) (j : Nat) : w.frozen? ⟨g, j, none⟩ = false := by simp [World.frozen?, show w.heap[g]? = _ from h]
theorem Blk.below {B : Nat} (h : Blk w g T cs) (hb : Below B w w') (hg : g < B) : Blk w' g T cs := by
  unfold Blk; rw [hb.block g hg]; exact h
theorem Blk.kept (h : Blk w g T cs) (hb : Below w.heap.size w w') : Blk w' g T cs := h.below hb h.lt
theorem Blk.grown {row : Option Nat} (h : Blk w g T cs) (hg : w.grownBy w' row) (hne : row ≠ some g) : Blk w' g T cs := by
  unfold Blk; rw [hg.block g h.lt (fun e => hne e.symm)]; exact h
theorem Blk.setRow (h : Blk w g T cs) (ds : Array Value) : Blk (w.setRow g ds) g T ds := setRow_heap w g cs ds T (0, 0) h
theorem Blk.setRow_other {k : Nat} (h : Blk w g T cs) (ds : Array Value) (hk : g ≠ k) : Blk (w.setRow k ds) g T cs := by
  unfold Blk; rw [Go.setRow_other w k g ds hk]; exact h
theorem Blk.setCell (h : Blk w g T cs) (j : Nat) (v : Value) : Blk (w.setCell ⟨g, j, none⟩ v) g T (cs.setIfInBounds j v) := by
  unfold Blk
  rw [setCell_eq_setRow w g j cs T (0, 0) v h]
  exact setRow_heap w g cs _ T (0, 0) h
theorem Blk.setCell_other {a : Addr} (h : Blk w g T cs) (v : Value) (hk : g ≠ a.block) : Blk (w.setCell a v) g T cs := by
  unfold Blk; rw [Below.heap_setCell w a v g hk]; exact h
theorem Blk.drewN (h : Blk w g T cs) (n : Nat) : Blk (w.drewN n) g T cs := h

theorem ownsRow_setRow {base k : Nat} {e : TypeId} {size : Nat} {v : Value} {n : Nat} {xs : List Value} (h : w.ownsRow base e size v n xs) (hk : v.ownBlock ≠ some k) (ds : Array Value) : (w.setRow k ds).ownsRow base e size v n xs := by
  obtain ⟨h1, h2⟩ := h
  refine ⟨h1, ?_⟩
  rcases h2 with h2 | ⟨g, cap, cur, hv, hg, hh, r⟩
  · exact Or.inl h2
  · subst hv
    exact Or.inr ⟨g, cap, cur, rfl, hg, by rw [Go.setRow_other w k g ds (fun e => hk (by simp [Value.ownBlock, e]))]; exact hh, r⟩
theorem OB.setRow {base k : Nat} {A : Option Addr} {c : Nat} {l : List UInt8} (h : OB w base A c l) (hk : A.map (·.block) ≠ some k) (ds : Array Value) : OB (w.setRow k ds) base A c l :=
  ownsRow_setRow h (by rw [own_blk]; exact hk) ds
theorem OB.setCell {base : Nat} {A : Option Addr} {c : Nat} {l : List UInt8} {a : Addr} (h : OB w base A c l) (hk : a.block < base) (v : Value) : OB (w.setCell a v) base A c l :=
  ownsRow_setCell_below h hk v
theorem OB.blk_ne {base k : Nat} {A : Option Addr} {c : Nat} {l : List UInt8} (h : OB w base A c l) (hk : k < base) : A.map (·.block) ≠ some k := by
  intro e
  have := (h.own_lt k (by rw [own_blk]; exact e)).1
  omega
theorem RB.setCell {a : Addr} {A : Option Addr} {l : List UInt8} (h : RB w A l) (hk : ∀ b off, 0 < l.length → A = some ⟨b, off, none⟩ → b ≠ a.block) (v : Value) : RB (w.setCell a v) A l :=
  h.keep (by simp [World.setCell]) fun b off hn e _ j => World.cell?_of_block (w := w) (Below.heap_setCell w a v b (hk b off hn e))
theorem RB.setRow {k : Nat} {A : Option Addr} {l : List UInt8} (h : RB w A l) (hk : ∀ b off, 0 < l.length → A = some ⟨b, off, none⟩ → b ≠ k) (ds : Array Value) : RB (w.setRow k ds) A l :=
  h.keep (by simp) fun b off hn e _ j => cell_setRow_other w k ds _ (hk b off hn e)
end
end Go.Proofs.YtcinohmhhglpjaaDoor
