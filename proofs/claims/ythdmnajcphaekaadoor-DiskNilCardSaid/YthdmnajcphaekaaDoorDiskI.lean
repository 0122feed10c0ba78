/- Contract of package disk's change: a change that is refused (the walk of the others is to come). -/
import Derived.Test.YthdmnajcphaekaaDoorDiskH
import Derived.BigQuiet
import Derived.Deep.QuietTactic
namespace Go.Proofs.YthdmnajcphaekaaDoor
open Go.RowKit

section
variable {S : Nat → Prop} {g : Nat} {w : World} {D : DSt}
set_option maxRecDepth 20000 in
set_option maxHeartbeats 2000000 in
theorem diskChange_down (c : Wr) (off : Int) (X : Option Addr) (cx : Nat) (h : DI S w g D) (hd : D.down = true) :
    Calls Tryd.prog 36 #[.pointer (some ⟨g, 0, none⟩), .agg #[.int .i64 c.kind, .string ⟨c.name.toArray⟩, .int .i64 off, .slice X c.data.length cx]] w fun e w' => e = .returned (.int .i64 11) ∧ Below w.heap.size w w' := by
  have hal : Below w.heap.size w (w.alloc (.cells #[.int .i64 c.kind, .string ⟨c.name.toArray⟩, .int .i64 off, .slice X c.data.length cx] 73)) := (Below.refl _ _).alloc (Nat.le_refl _) _
  have AL := Lib.hid (diskAlive (h.below hal))
  rw [if_pos hd] at AL
  clear h
  go_enter Tryd.func36, Tryd.ntmps36
  go_wp2_with fail
  refine AL.out.mono ?_
  rintro e w' ⟨rfl, rfl⟩
  go_wp2_with fail
  go_ret
  exact ⟨rfl, hal⟩

set_option maxRecDepth 20000 in
set_option maxHeartbeats 4000000 in
theorem diskChange_bad (c : Wr) (off : Int) (X : Option Addr) (cx : Nat) (h : DI S w g D) (hd : D.down = false) (hs : c.name.length ≤ 9223372036854775807) (ho : -9223372036854775808 ≤ off ∧ off ≤ 9223372036854775807) (hb : nameOk c.name = false ∨ off < 0 ∨ 4194304 < off) :
    Calls Tryd.prog 36 #[.pointer (some ⟨g, 0, none⟩), .agg #[.int .i64 c.kind, .string ⟨c.name.toArray⟩, .int .i64 off, .slice X c.data.length cx]] w fun e w' => e = .returned (.int .i64 1) ∧ Below w.heap.size w w' := by
  have hal : Below w.heap.size w (w.alloc (.cells #[.int .i64 c.kind, .string ⟨c.name.toArray⟩, .int .i64 off, .slice X c.data.length cx] 73)) := (Below.refl _ _).alloc (Nat.le_refl _) _
  have hx := Blk.new w #[.int .i64 c.kind, .string ⟨c.name.toArray⟩, .int .i64 off, .slice X c.data.length cx] 73
  have AL := Lib.hid (diskAlive (h.below hal))
  rw [if_neg (by rw [hd]; simp)] at AL
  have NM := Lib.hid (diskNamed ⟨c.name.toArray⟩ (w.alloc (.cells #[.int .i64 c.kind, .string ⟨c.name.toArray⟩, .int .i64 off, .slice X c.data.length cx] 73)) (by simpa [ByteArray.size] using hs))
  have y1 := hx.cell 1 rfl
  obtain ⟨o1, o2⟩ := ho
  have HX := Lib.hid hx
  clear h hx
  rcases Bool.eq_false_or_eq_true (nameOk c.name) with hn | hn
  · have hb' : off < 0 ∨ 4194304 < off := by rcases hb with h | h; rw [hn] at h; cases h; exact h
    rw [show nameOk (⟨c.name.toArray⟩ : ByteArray).data.toList = true from hn] at NM
    clear hb
    rcases hb' with h0 | h0
    all_goals
      go_enter Tryd.func36, Tryd.ntmps36
      go_wp2_with fail
      refine AL.out.mono ?_
      rintro e w' ⟨rfl, rfl⟩
      go_wp2_with fail
      refine NM.out.mono ?_
      rintro e w2 ⟨rfl, hb2⟩
      have hx2 := HX.out.kept hb2
      have z2 := hx2.cell 2 rfl
      have hB := hal.trans (hb2.mono hal.size)
      clear hb2 hx2 y1
      go_wp2_with fail
      go_ret
      exact ⟨rfl, hB⟩
  · rw [show nameOk (⟨c.name.toArray⟩ : ByteArray).data.toList = false from hn] at NM
    clear hb
    go_enter Tryd.func36, Tryd.ntmps36
    go_wp2_with fail
    refine AL.out.mono ?_
    rintro e w' ⟨rfl, rfl⟩
    go_wp2_with fail
    refine NM.out.mono ?_
    rintro e w2 ⟨rfl, hb2⟩
    have hB := hal.trans (hb2.mono hal.size)
    clear hb2 y1
    go_wp2_with fail
    go_ret
    exact ⟨rfl, hB⟩
end
end Go.Proofs.YthdmnajcphaekaaDoor
