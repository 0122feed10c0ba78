/- Contracts of package script: toSetting, ToScript's closure. -/
import Derived.Test.YtcinohmhhglpjaaDoorScrRS
import Derived.Test.YtcinohmhhglpjaaDoorScrTA
namespace Go.Proofs.YtcinohmhhglpjaaDoor
open Go.RowKit

theorem sg_in (w0 w : World) (cs ds : Array Value) (Ty : TypeId) (h : Below w0.heap.size w0 w) : Below w0.heap.size w0 ((w.alloc (.cells cs Ty)).setRow w.heap.size ds) ∧ Blk ((w.alloc (.cells cs Ty)).setRow w.heap.size ds) w.heap.size Ty ds := row_in w0 w cs ds Ty h

set_option maxRecDepth 20000 in
set_option maxHeartbeats 4000000 in
theorem scrBad (k : Int) (w : World) : Calls Tryd.prog 54 #[.int .i64 k] w fun e w' => e = .returned (.tuple #[.agg #[.int .i64 0, .int .i64 0, .int .i64 0, .int .i64 0, .int .i64 0, .int .i64 0, .int .i64 0, .int .i64 0, .int .i64 0, .int .i64 0], .slice none 0 0, .int .i64 k, .int .i64 4]) ∧ Below w.heap.size w w' := by
  have HN := Lib.hid (Blk.new w #[.int .i64 0, .int .i64 0, .int .i64 0, .int .i64 0, .int .i64 0, .int .i64 0, .int .i64 0, .int .i64 0, .int .i64 0, .int .i64 0] 23)
  obtain ⟨hb, hx⟩ := row_in w w #[.int .i64 0, .int .i64 0, .int .i64 0, .int .i64 0, .int .i64 0, .int .i64 0, .int .i64 0, .int .i64 0, .int .i64 0, .int .i64 0] #[.int .i64 0, .int .i64 0, .int .i64 0, .int .i64 0, .int .i64 0, .int .i64 0, .int .i64 0, .int .i64 0, .int .i64 0, .int .i64 0] 23 (Below.refl _ _)
  have HB := Lib.hid hb
  have HX := Lib.hid hx
  clear hb hx
  go_enter Tryd.func54, Tryd.ntmps54
  go_wp2_with (refine wpList_store_row rfl 23 (.tmp 2) (.tmp 6) rfl w.heap.size #[.int .i64 0, .int .i64 0, .int .i64 0, .int .i64 0, .int .i64 0, .int .i64 0, .int .i64 0, .int .i64 0, .int .i64 0, .int .i64 0] rfl rfl _ _ HN.out set_size' rfl (by simp [Value.oneCell']) ?_)
  have y0 := HX.out.cell 0 rfl; have y1 := HX.out.cell 1 rfl; have y2 := HX.out.cell 2 rfl; have y3 := HX.out.cell 3 rfl; have y4 := HX.out.cell 4 rfl; have y5 := HX.out.cell 5 rfl; have y6 := HX.out.cell 6 rfl; have y7 := HX.out.cell 7 rfl; have y8 := HX.out.cell 8 rfl; have y9 := HX.out.cell 9 rfl
  refine bodyPost_ret (v := .tuple #[.agg #[.int .i64 0, .int .i64 0, .int .i64 0, .int .i64 0, .int .i64 0, .int .i64 0, .int .i64 0, .int .i64 0, .int .i64 0, .int .i64 0], .slice none 0 0, .int .i64 k, .int .i64 4]) (by simp [results, Tryd.results54, go_sem, y0, y1, y2, y3, y4, y5, y6, y7, y8, y9]) rfl ?_
  exact ⟨rfl, HB.out⟩

set_option maxRecDepth 20000 in
set_option maxHeartbeats 4000000 in
theorem scrToSetting (s : List UInt8) (w : World) (hs : s.length < 4294967281) (hE : EnvR w.heap.size w) : Calls Tryd.prog 56 #[.string ⟨s.toArray⟩] w (ReadSgE s w) := by
  have hb0 : Below w.heap.size w (w.alloc (.cells #[.int .i64 0, .int .i64 0, .int .i64 0, .int .i64 0, .int .i64 0, .int .i64 0, .int .i64 0, .int .i64 0, .int .i64 0, .int .i64 0] 23)) := (Below.refl _ _).alloc (Nat.le_refl _) _
  have HX0 := Lib.hid (Blk.new w #[.int .i64 0, .int .i64 0, .int .i64 0, .int .i64 0, .int .i64 0, .int .i64 0, .int .i64 0, .int .i64 0, .int .i64 0, .int .i64 0] 23)
  have C := Lib.hid (scrReadSg s _ hs ((hE.below hb0).up hb0.size))
  have HB0 := Lib.hid hb0
  clear hb0 hE
  cases hr : readSg s with
  | none =>
    have HR := Lib.hid hr
    clear hr
    go_enter Tryd.func56, Tryd.ntmps56
    go_wp2_with (go_at_call 71; refine C.out.mono ?_)
    intro e w1 hpp; unfold ReadSgE at hpp; rw [HR.out] at hpp; obtain ⟨rfl, b1⟩ := hpp
    simp only [Option.isSome_none]
    have HB1 := Lib.hid (HB0.out.trans (b1.mono HB0.out.size))
    have HX1 := Lib.hid (HX0.out.kept b1)
    obtain ⟨hb2, hx2⟩ := set_in #[.int .i64 0, .int .i64 0, .int .i64 0, .int .i64 0, .int .i64 0, .int .i64 0, .int .i64 0, .int .i64 0, .int .i64 0, .int .i64 0] HB1.out HX1.out (Nat.le_refl _)
    have HB2 := Lib.hid hb2
    have HX2 := Lib.hid hx2
    clear b1 hb2 hx2 C HB0 HX0
    go_wp2_with (refine wpList_store_row rfl 23 (.tmp 2) (.tmp 6) rfl w.heap.size #[.int .i64 0, .int .i64 0, .int .i64 0, .int .i64 0, .int .i64 0, .int .i64 0, .int .i64 0, .int .i64 0, .int .i64 0, .int .i64 0] rfl rfl _ _ HX1.out set_size' rfl (by simp [Value.oneCell']) ?_)
    have y0 := HX2.out.cell 0 rfl; have y1 := HX2.out.cell 1 rfl; have y2 := HX2.out.cell 2 rfl; have y3 := HX2.out.cell 3 rfl; have y4 := HX2.out.cell 4 rfl; have y5 := HX2.out.cell 5 rfl; have y6 := HX2.out.cell 6 rfl; have y7 := HX2.out.cell 7 rfl; have y8 := HX2.out.cell 8 rfl; have y9 := HX2.out.cell 9 rfl
    refine bodyPost_ret (v := .tuple #[.agg #[.int .i64 0, .int .i64 0, .int .i64 0, .int .i64 0, .int .i64 0, .int .i64 0, .int .i64 0, .int .i64 0, .int .i64 0, .int .i64 0], .bool false]) (by simp [results, Tryd.results56, go_sem, y0, y1, y2, y3, y4, y5, y6, y7, y8, y9]) rfl ?_
    exact readSgE_no HR.out HB2.out
  | some a =>
    obtain ⟨sg1, sg2, sg3, sg4, sg5, sg6, sg7, sg8, sg9, sg10⟩ := a
    have HR := Lib.hid hr
    clear hr
    go_enter Tryd.func56, Tryd.ntmps56
    go_wp2_with (go_at_call 71; refine C.out.mono ?_)
    intro e w1 hpp; unfold ReadSgE at hpp; rw [HR.out] at hpp; obtain ⟨rfl, b1⟩ := hpp
    simp only [Option.isSome_some]
    unfold Sg.cells
    have HB1 := Lib.hid (HB0.out.trans (b1.mono HB0.out.size))
    have HX1 := Lib.hid (HX0.out.kept b1)
    obtain ⟨hb2, hx2⟩ := set_in #[.int .i64 sg1, .int .i64 sg2, .int .i64 sg3, .int .i64 sg4, .int .i64 sg5, .int .i64 sg6, .int .i64 sg7, .int .i64 sg8, .int .i64 sg9, .int .i64 sg10] HB1.out HX1.out (Nat.le_refl _)
    have HB2 := Lib.hid hb2
    have HX2 := Lib.hid hx2
    clear b1 hb2 hx2 C HB0 HX0
    go_wp2_with (refine wpList_store_row rfl 23 (.tmp 2) (.tmp 6) rfl w.heap.size #[.int .i64 sg1, .int .i64 sg2, .int .i64 sg3, .int .i64 sg4, .int .i64 sg5, .int .i64 sg6, .int .i64 sg7, .int .i64 sg8, .int .i64 sg9, .int .i64 sg10] rfl rfl _ _ HX1.out set_size' rfl (by simp [Value.oneCell']) ?_)
    have y0 := HX2.out.cell 0 rfl; have y1 := HX2.out.cell 1 rfl; have y2 := HX2.out.cell 2 rfl; have y3 := HX2.out.cell 3 rfl; have y4 := HX2.out.cell 4 rfl; have y5 := HX2.out.cell 5 rfl; have y6 := HX2.out.cell 6 rfl; have y7 := HX2.out.cell 7 rfl; have y8 := HX2.out.cell 8 rfl; have y9 := HX2.out.cell 9 rfl
    refine bodyPost_ret (v := .tuple #[.agg #[.int .i64 sg1, .int .i64 sg2, .int .i64 sg3, .int .i64 sg4, .int .i64 sg5, .int .i64 sg6, .int .i64 sg7, .int .i64 sg8, .int .i64 sg9, .int .i64 sg10], .bool true]) (by simp [results, Tryd.results56, go_sem, y0, y1, y2, y3, y4, y5, y6, y7, y8, y9]) rfl ?_
    exact readSgE_yes HR.out rfl HB2.out
end Go.Proofs.YtcinohmhhglpjaaDoor
