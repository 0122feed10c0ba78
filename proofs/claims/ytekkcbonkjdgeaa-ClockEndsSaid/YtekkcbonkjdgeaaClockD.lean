/- Contract of package clock's Copy. -/
import Derived.Test.YtekkcbonkjdgeaaClockC
namespace Go.Proofs.Ytekkcbonkjdgeaa
open Go.RowKit

set_option maxHeartbeats 2000000 in
theorem cloneMapC (b : Nat) (es : Array MapEntry) (clock : Nat) (w : World) (hb : w.heap[b]? = some (.map es clock)) :
    Calls Try.prog 55 #[.map (some b)] w fun e w' => e = .returned (.map (some w.heap.size)) ∧ w' = w.alloc (.map es clock) := by
  have hq := fun w => run_eql_map_nil_sl (P := Try.prog) w 80 _ _ (some b) Try.underlying80
  go_enter Try.func55, Try.ntmps55
  go_wp2_with fail
  rw [run_callFunc_extern Try.func61 (by kernel_rfl) (by kernel_rfl) (by kernel_rfl) (e := Extern.MapsClone.clone) (by kernel_rfl), run_maps_clone_sl w 80 hb]
  simp only [Result.andThen]
  rw [Oper.upon_value]
  go_wp2_with fail
  rw [run_typeAssert_map_sl _ 80 20 _ _ _ Try.underlying80]
  simp only [Result.andThen]
  rw [Oper.upon_value]
  go_wp2_with fail
  go_ret
  exact ⟨rfl, rfl⟩

section
variable {n : Nat} {w : World} {g : Nat} {s : Clk}
theorem clockCopy_nil : Calls Try.prog 34 #[.pointer none] w fun e w' => e = .returned (.pointer none) ∧ w = w' := by
  go_enter Try.func34, Try.ntmps34
  go_wp2_with fail
  go_ret
  exact ⟨rfl, rfl⟩

set_option maxRecDepth 20000 in
set_option maxHeartbeats 4000000 in
theorem clockCopy (h : CI n w g s) : Calls Try.prog 34 #[.pointer (some ⟨g, 0, none⟩)] w fun e w' => ∃ g', e = .returned (.pointer (some ⟨g', 0, none⟩)) ∧ CI w.heap.size w' g' s ∧ Below w.heap.size w w' := by
  obtain ⟨m, es, hb, hmap, hes, hnm, hok⟩ := h
  obtain ⟨es0, clock, hmb, _⟩ := hmap.size
  have c0 := hb.cell 0 rfl
  have c1 := hb.cell 1 rfl
  have c2 := hb.cell 2 rfl
  have c3 := hb.cell 3 rfl
  have c4 := hb.cell 4 rfl
  have c5 := hb.cell 5 rfl
  have hal : Below w.heap.size w (w.alloc (.cells #[.map (some m), .int .i64 s.nodes, .int .i64 s.edges, .int .i64 s.rho, .int .i64 s.real, .bool s.skew] 82)) := (Below.refl _ _).alloc (Nat.le_refl _) _
  have hb1 := hb.kept hal
  have hmap1 := hmap.below hal
  have hnew := Blk.new w #[.map (some m), .int .i64 s.nodes, .int .i64 s.edges, .int .i64 s.rho, .int .i64 s.real, .bool s.skew] 82
  have hmb1 : (w.alloc (.cells #[.map (some m), .int .i64 s.nodes, .int .i64 s.edges, .int .i64 s.rho, .int .i64 s.real, .bool s.skew] 82)).heap[m]? = some (.map es0 clock) := (hal.block m hmap.lt).trans hmb
  have c0' := hb1.cell 0 rfl
  have HK := Lib.hid (cloneMapC m es0 clock _ hmb1)
  have HMAP := Lib.hid hmap1
  have HMB := Lib.hid hmb1
  have HAL := Lib.hid hal
  have HNEW := Lib.hid hnew
  have HES := Lib.hid hes
  have HOK := Lib.hid hok
  clear hmap hmb hmb1 hmap1 hal hnew hes hb1 hb hok
  go_enter Try.func34, Try.ntmps34
  go_wp2_with fail
  refine HK.out.mono ?_
  rintro e w2 ⟨rfl, hw2⟩
  obtain ⟨g', hg'⟩ : ∃ g', g' = w.heap.size := ⟨_, rfl⟩
  have hB2 : Below w.heap.size w w2 := by rw [hw2]; exact HAL.out.alloc HAL.out.size _
  have hm2 : MapAt (Value.int .i64) w2 (w.heap.size + 1) es := by
    have := HMAP.out.cloned HMB.out
    rw [← hw2] at this
    simpa using this
  have hn2 : Blk w2 w.heap.size 82 #[.map (some m), .int .i64 s.nodes, .int .i64 s.edges, .int .i64 s.rho, .int .i64 s.real, .bool s.skew] := by
    rw [hw2]; exact HNEW.out.kept ((Below.refl _ _).alloc (Nat.le_refl _) _)
  rw [← hg'] at hn2 ⊢
  have HF : Hid (∃ g0, (Ending.returned (.pointer (some ⟨g', 0, none⟩))) = .returned (.pointer (some ⟨g0, 0, none⟩)) ∧ CI w.heap.size (w2.setCell ⟨g', 0, none⟩ (.map (some (g' + 1)))) g0 s ∧ Below w.heap.size w (w2.setCell ⟨g', 0, none⟩ (.map (some (g' + 1))))) := Lib.hid ⟨g', rfl, ⟨g' + 1, es, hn2.setCell 0 _, (by rw [hg']; exact hm2 : MapAt (Value.int .i64) w2 (g' + 1) es).setCell (p := ⟨g', 0, none⟩) (by simp) _, HES.out, ⟨by omega, by omega⟩, HOK.out⟩, below_setCell (p := ⟨g', 0, none⟩) hB2 (by simp; omega) _⟩
  have c0n := hn2.cell 0 rfl
  have f0n := hn2.free 0
  have HG := Lib.hid hg'
  clear c0 c1 c2 c3 c4 c5 c0' hw2 hB2 hm2 hn2 hg' HK HMAP HMB HAL HNEW HES HOK
  rw [show (w.alloc (.cells #[.map (some m), .int .i64 s.nodes, .int .i64 s.edges, .int .i64 s.rho, .int .i64 s.real, .bool s.skew] 82)).heap.size = g' + 1 from by rw [HG.out]; simp]
  go_wp2_with fail
  go_ret
  exact HF.out
end
end Go.Proofs.Ytekkcbonkjdgeaa
