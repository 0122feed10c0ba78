/- Walk of ScriptTexts (printed by gen_scrtr.py). -/
import Derived.Test.YtcinohmhhglpjaaDoorScrTU
import Derived.Test.YtcinohmhhglpjaaDoorWScrS
namespace Go.Proofs.YtcinohmhhglpjaaDoor
open Go.RowKit

theorem readSegs_len : ∀ (ls : List (List UInt8)) (k : Nat) (acc xs : List Ap), readSegs k ls acc = .inl xs → xs.length ≤ acc.length + ls.length
  | [], k, acc, xs, h => by simp [readSegs] at h
  | [l], k, acc, xs, h => by
    unfold readSegs at h
    split at h
    · injection h with h; subst h; omega
    · cases h
  | l :: m :: r, k, acc, xs, h => by
    rw [readSegs] at h
    split at h
    · have := readSegs_len (m :: r) (k + 1) _ xs h
      simp at this ⊢
      omega
    · cases h
theorem parts_le10 (s : List UInt8) : (parts 10 s).length ≤ s.length + 1 := by rw [parts_count]; have := List.count_le_length (a := (10 : UInt8)) (l := s); omega
theorem read_ten (t : List UInt8) : (readScript t).set.length = 10 ∧ (readScript t).acts.length ≤ 65538 := by
  unfold readScript
  split
  · exact ⟨rfl, by simp [Read.acts]⟩
  · rename_i hl
    have hp := parts_le10 t
    unfold readParts
    split
    · exact ⟨rfl, by simp [Read.acts]⟩
    · exact ⟨rfl, by simp [Read.acts]⟩
    · rename_i l m r hpe
      split
      · exact ⟨rfl, by simp [Read.acts]⟩
      · rename_i zs hzs
        split
        · rename_i xs hxs
          refine ⟨(readSetting_some hzs).2.1, ?_⟩
          have := readSegs_len _ _ _ _ hxs
          rw [hpe] at hp
          simp at hp this ⊢
          show xs.length ≤ _
          omega
        · exact ⟨rfl, by simp [Read.acts]⟩

/-- What both ToScripts answer, by its form alone. -/
def SameE (cs : Array Value) (xs : List Ap) (ln er : Int) (w : World) (e : Ending) (w' : World) : Prop :=
  ∃ (A : Option Addr) (c : Nat), e = .returned (.tuple #[.agg cs, .slice A xs.length c, .int .i64 ln, .int .i64 er]) ∧ OR w' w.heap.size 35 13 A c (xs.map Ap.cells) ∧ Below w.heap.size w w'

set_option maxRecDepth 20000 in
set_option maxHeartbeats 4000000 in
theorem walkScriptTexts' (t : List UInt8) (w : World) (hE : EnvR w.heap.size w) : Calls Tryd.prog 7 #[.string ⟨t.toArray⟩] w (Yes w) := by
  obtain ⟨h10, hxl⟩ := read_ten t
  have CP := Lib.hid (fun W hW => scrToScript t W hW)
  have CR := Lib.hid (refToScript t)
  unfold ToScrE at CP CR
  have HE := Lib.hid hE
  generalize (readScript t).set = zs at *
  generalize (readScript t).acts = xs at *
  generalize (readScript t).line = ln at *
  generalize (readScript t).err = er at *
  obtain ⟨g1, g2, g3, g4, g5, g6, g7, g8, g9, g10, rfl⟩ := ten h10
  simp only [List.map_cons, List.map_nil] at CP CR
  have hse := set_eq g1 g2 g3 g4 g5 g6 g7 g8 g9 g10
  have CP2 : Hid (∀ W, EnvR W.heap.size W → Calls Tryd.prog 19 #[.string ⟨t.toArray⟩] W (SameE #[.int .i64 g1, .int .i64 g2, .int .i64 g3, .int .i64 g4, .int .i64 g5, .int .i64 g6, .int .i64 g7, .int .i64 g8, .int .i64 g9, .int .i64 g10] xs ln er W)) := Lib.hid fun W hW => CP.out W hW
  have CR2 : Hid (∀ W, Calls Tryd.prog 20 #[.string ⟨t.toArray⟩] W (SameE #[.int .i64 g1, .int .i64 g2, .int .i64 g3, .int .i64 g4, .int .i64 g5, .int .i64 g6, .int .i64 g7, .int .i64 g8, .int .i64 g9, .int .i64 g10] xs ln er W)) := Lib.hid fun W => CR.out W
  clear h10 hE CP CR
  go_enter Tryd.func7, Tryd.ntmps7
  go_wp2_with (go_at_call 19; refine (CP2.out _ HE.out).mono ?_)
  intro e w1 hpp; unfold SameE at hpp; obtain ⟨A1, c1, rfl, ho1, b1⟩ := hpp
  have HB1 := Lib.hid b1
  have HN := Lib.hid (Blk.new w1 #[.int .i64 0, .int .i64 0, .int .i64 0, .int .i64 0, .int .i64 0, .int .i64 0, .int .i64 0, .int .i64 0, .int .i64 0, .int .i64 0] 23)
  obtain ⟨hb2, hx2⟩ := laid_row w1 #[.int .i64 0, .int .i64 0, .int .i64 0, .int .i64 0, .int .i64 0, .int .i64 0, .int .i64 0, .int .i64 0, .int .i64 0, .int .i64 0] #[.int .i64 g1, .int .i64 g2, .int .i64 g3, .int .i64 g4, .int .i64 g5, .int .i64 g6, .int .i64 g7, .int .i64 g8, .int .i64 g9, .int .i64 g10] 23
  have HX2 := Lib.hid hx2
  have HB2 := Lib.hid (HB1.out.trans (hb2.mono HB1.out.size))
  have HO2 := Lib.hid ((ho1.below hb2))
  clear ho1 b1 hb2 hx2 HB1
  go_wp2_with (first
    | (refine wpList_store_row rfl 23 (.tmp 3) (.tmp 14) rfl w1.heap.size #[.int .i64 g1, .int .i64 g2, .int .i64 g3, .int .i64 g4, .int .i64 g5, .int .i64 g6, .int .i64 g7, .int .i64 g8, .int .i64 g9, .int .i64 g10] rfl rfl _ _ HN.out set_size' rfl (by simp [Value.oneCell']) ?_
       clear HN
       generalize (w1.alloc (.cells #[.int .i64 0, .int .i64 0, .int .i64 0, .int .i64 0, .int .i64 0, .int .i64 0, .int .i64 0, .int .i64 0, .int .i64 0, .int .i64 0] 23)).setRow w1.heap.size #[.int .i64 g1, .int .i64 g2, .int .i64 g3, .int .i64 g4, .int .i64 g5, .int .i64 g6, .int .i64 g7, .int .i64 g8, .int .i64 g9, .int .i64 g10] = w2 at *)
    | (go_at_call 20; refine (CR2.out _).mono ?_))
  intro e w3 hpp; unfold SameE at hpp; obtain ⟨A3, c3, rfl, ho3, b3⟩ := hpp
  have HB3 := Lib.hid (HB2.out.trans (b3.mono HB2.out.size))
  have HX3 := Lib.hid (HX2.out.kept b3)
  have HO3 := Lib.hid (HO2.out.below b3)
  have HN := Lib.hid (Blk.new w3 #[.int .i64 0, .int .i64 0, .int .i64 0, .int .i64 0, .int .i64 0, .int .i64 0, .int .i64 0, .int .i64 0, .int .i64 0, .int .i64 0] 23)
  obtain ⟨hb4, hx4⟩ := laid_row w3 #[.int .i64 0, .int .i64 0, .int .i64 0, .int .i64 0, .int .i64 0, .int .i64 0, .int .i64 0, .int .i64 0, .int .i64 0, .int .i64 0] #[.int .i64 g1, .int .i64 g2, .int .i64 g3, .int .i64 g4, .int .i64 g5, .int .i64 g6, .int .i64 g7, .int .i64 g8, .int .i64 g9, .int .i64 g10] 23
  have HX4 := Lib.hid hx4
  have HY4 := Lib.hid (HX3.out.kept hb4)
  have HB4 := Lib.hid (HB3.out.trans (hb4.mono HB3.out.size))
  have HO4 := Lib.hid ((HO3.out.below hb4).rs)
  have HP4 := Lib.hid ((ho3.below hb4).rs)
  have HE4 := Lib.hid ((HE.out.below HB4.out).up HB4.out.size)
  clear ho3 b3 hb4 hx4 HB2 HX2 HO2 HB3 HX3 HO3
  go_wp2_with (first
    | (refine wpList_store_row rfl 23 (.tmp 7) (.tmp 21) rfl w3.heap.size #[.int .i64 g1, .int .i64 g2, .int .i64 g3, .int .i64 g4, .int .i64 g5, .int .i64 g6, .int .i64 g7, .int .i64 g8, .int .i64 g9, .int .i64 g10] rfl rfl _ _ HN.out set_size' rfl (by simp [Value.oneCell']) ?_
       clear HN
       generalize (w3.alloc (.cells #[.int .i64 0, .int .i64 0, .int .i64 0, .int .i64 0, .int .i64 0, .int .i64 0, .int .i64 0, .int .i64 0, .int .i64 0, .int .i64 0] 23)).setRow w3.heap.size #[.int .i64 g1, .int .i64 g2, .int .i64 g3, .int .i64 g4, .int .i64 g5, .int .i64 g6, .int .i64 g7, .int .i64 g8, .int .i64 g9, .int .i64 g10] = w4 at *)
    | (go_at_call 11; refine (scrAnswers _ HE4.out.env).mono ?_))
  first | rintro e w5 rfl b5 | rintro e w5 ⟨rfl, b5⟩
  have HB5 := Lib.hid (HB4.out.trans (b5.mono HB4.out.size))
  have HX5 := Lib.hid (HX4.out.kept b5)
  have HY5 := Lib.hid (HY4.out.kept b5)
  have HO5 := Lib.hid (HO4.out.below b5)
  have HP5 := Lib.hid (HP4.out.below b5)
  clear b5 HB4 HX4 HY4 HO4 HP4 HE4
  have y0 := HX5.out.cell 0 rfl; have y1 := HX5.out.cell 1 rfl; have y2 := HX5.out.cell 2 rfl; have y3 := HX5.out.cell 3 rfl; have y4 := HX5.out.cell 4 rfl; have y5 := HX5.out.cell 5 rfl; have y6 := HX5.out.cell 6 rfl; have y7 := HX5.out.cell 7 rfl; have y8 := HX5.out.cell 8 rfl; have y9 := HX5.out.cell 9 rfl
  have s0 := HY5.out.cell 0 rfl; have s1 := HY5.out.cell 1 rfl; have s2 := HY5.out.cell 2 rfl; have s3 := HY5.out.cell 3 rfl; have s4 := HY5.out.cell 4 rfl; have s5 := HY5.out.cell 5 rfl; have s6 := HY5.out.cell 6 rfl; have s7 := HY5.out.cell 7 rfl; have s8 := HY5.out.cell 8 rfl; have s9 := HY5.out.cell 9 rfl
  go_wp2_with (go_at_call 21; refine (lawSame A1 A3 c1 c3 xs _ HO5.out HP5.out (by omega)).mono ?_)
  first | rintro e w6 rfl b6 | rintro e w6 ⟨rfl, b6⟩
  go_wp2_with fail
  go_ret
  exact ⟨rfl, HB5.out.trans (b6.mono HB5.out.size)⟩
theorem walkScriptTexts {P : Prop} (s : List UInt8) (w : World) (_ : P) (hl : laidMetH Tryd.prog Rows.scriptTextsRow.laid w) (hsh : w.ShapedOpen Tryd.prog) : Calls Tryd.prog 7 #[.string ⟨s.toArray⟩] w (Yes w) :=
  walkScriptTexts' s w (envR_of hl (by kernel_rfl) hsh (by simp [Rows.scriptTextsRow]) (by simp [Rows.scriptTextsRow]) (by simp [Rows.scriptTextsRow]) (by simp [Rows.scriptTextsRow]))
end Go.Proofs.YtcinohmhhglpjaaDoor
