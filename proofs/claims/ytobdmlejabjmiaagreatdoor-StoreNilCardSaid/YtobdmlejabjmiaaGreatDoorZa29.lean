/- Put together of: StoP, ArgsA, ArgsN, StoQ. -/
import Derived.Test.YtobdmlejabjmiaaGreatDoorZa28
import Derived.Test.YtobdmlejabjmiaaGreatDoorZa03
/- The walk of StoreNil. -/
namespace Go.Proofs.YtobdmlejabjmiaaGreatDoor
open Go.RowKit
section
variable {w w' : World}
theorem field_list (a b c d e f g h : Value) (w : World) : (Instr.field 38 (.agg #[a, b, c, d, e, f, g, h]) 2).run Tryz.prog w = .ok h w := by kernel_rfl
set_option maxRecDepth 20000 in
set_option maxHeartbeats 2500000 in
theorem walkNilNo (i t : Nat) (v l : List Int) (d : List UInt8) (V : Option Addr) (vc : Nat) (L : Option Addr) (lc : Nat) (D : Option Addr) (dc : Nat) (w : World) (hv : RV w V (ncells .i64 v)) (hl : RV w L (ncells .i64 l)) (hd : RB w D d)
    (hn : v.length * 8 ≤ 140737488355328) (hm : l.length * 8 ≤ 140737488355328) (hdl : d.length ≤ 140737488355328) (hi : i ≤ 18446744073709551615) (ht : t ≤ 18446744073709551615) (hE : SEnv w.heap.size w) (hr : shotB i t v l d.length = false) :
    Calls Tryz.prog 4 #[.agg (shotC i t v l d V vc L lc D dc)] w fun e w' => e = .returned (.bool true) ∧ Below w.heap.size w w' := by
  have hal : Below w.heap.size w (w.alloc (.cells (shotC i t v l d V vc L lc D dc) 36)) := (Below.refl _ _).alloc (Nat.le_refl _) _
  have Z := Lib.hid (Blk.new w (shotC i t v l d V vc L lc D dc) 36)
  have ND := Lib.hid (diskNew 9000 (w.alloc (.cells (shotC i t v l d V vc L lc D dc) 36)) (by decide) (by decide))
  have HX := Lib.hid (And.intro hv (And.intro hl hd))
  have HAL := Lib.hid hal
  have HE := Lib.hid hE
  have HR := Lib.hid hr
  clear hv hl hd hE hr hal
  unfold shotC at *
  go_enter Tryz.func4, Tryz.ntmps4
  go_wp2_with fail
  refine ND.out.mono ?_
  rintro e w1 ⟨g, rfl, hD, b1⟩
  have hb1 := belowTrans HAL.out b1
  have Z1 := Lib.hid (Z.out.kept b1)
  have OS := Lib.hid (refOwnShot i t v l d V vc L lc D dc w1 (HX.out.1.below hb1) (HX.out.2.1.below hb1) (HX.out.2.2.below hb1) hn hm hdl)
  have HB1 := Lib.hid hb1
  clear hD b1 hb1 Z HAL ND
  go_wp2_with (refine wpList_load_row rfl 36 (.tmp 1) rfl w.heap.size rfl 36 (shotC i t v l d V vc L lc D dc) (0, 0) _ Z1.out Tryz.underlying36 rfl shot_size ?_)
  refine OS.out.mono ?_
  rintro e w2 ⟨A, ac, Bb, bc, C, cc, rfl, o1, o2, o3, b2⟩
  have OP := Lib.hid (storeOpenNo (g := g) i t v l d A ac Bb bc C cc o1.rv o2.rv o3.rb (by omega) (by omega) (by omega) hi ht HR.out)
  have Z2 := Lib.hid (Z1.out.kept b2)
  have HB2 := Lib.hid (HB1.out.trans (b2.mono HB1.out.size))
  clear o1 o2 o3 b2 OS HB1 Z1
  go_wp2_with fail
  refine OP.out.mono ?_
  rintro e w3 ⟨rfl, b3⟩
  have hb4 : Below w3.heap.size w3 (w3.alloc (.cells state0 38)) := (Below.refl _ _).alloc (Nat.le_refl _) _
  have T4 := Lib.hid (Blk.new w3 state0 38)
  have hB4 := below_setRow (g := w3.heap.size) hb4 (Nat.le_refl _) state0
  obtain ⟨w4, hw4⟩ : ∃ w4, w4 = (w3.alloc (.cells state0 38)).setRow w3.heap.size state0 := ⟨_, rfl⟩
  rw [← hw4] at hB4
  have HW4 := Lib.hid hw4.symm
  have hz3 := Z2.out.kept b3
  have Z4 := Lib.hid (hz3.kept hB4)
  have hb3 := HB2.out.trans (b3.mono HB2.out.size)
  have HB4 := Lib.hid (hb3.trans (hB4.mono hb3.size))
  clear OP b3 hb4 hB4 hw4 hz3 hb3 HB2 Z2
  go_wp2_with (refine wpList_store_row rfl 38 (.tmp 6) (.tmp 25) rfl w3.heap.size state0 rfl rfl _ _ T4.out state_size rfl (by simp [Value.oneCell']) ?_; rw [HW4.out])
  refine lawFirst.mono ?_
  rintro e w5 ⟨V5, rfl, _, b5⟩
  have Z5 := Lib.hid (Z4.out.kept b5)
  have HB5 := Lib.hid (HB4.out.trans (b5.mono HB4.out.size))
  clear b5 Z4 HB4 T4 HW4
  go_wp2_with fail
  refine (storeOpenNil 0 0 [1, 2] [] [] (some V5) 2 none 0 none 0).mono ?_
  rintro e w6 ⟨rfl, b6⟩
  have hb7 : Below w6.heap.size w6 (w6.alloc (.cells state0 38)) := (Below.refl _ _).alloc (Nat.le_refl _) _
  have T7 := Lib.hid (Blk.new w6 state0 38)
  have hB7 := below_setRow (g := w6.heap.size) hb7 (Nat.le_refl _) state0
  obtain ⟨w7, hw7⟩ : ∃ w7, w7 = (w6.alloc (.cells state0 38)).setRow w6.heap.size state0 := ⟨_, rfl⟩
  rw [← hw7] at hB7
  have HW7 := Lib.hid hw7.symm
  have hz6 := Z5.out.kept b6
  have Z7 := Lib.hid (hz6.kept hB7)
  have hb6 := HB5.out.trans (b6.mono HB5.out.size)
  have hbw7 := hb6.trans (hB7.mono hb6.size)
  have HB7 := Lib.hid hbw7
  have SK := Lib.hid (refShotOK i t v l d V vc L lc D dc w7 (HX.out.1.below hbw7) (HX.out.2.1.below hbw7) (by omega) (by omega) (by omega) hi ht false HR.out)
  clear b6 hb7 hB7 hw7 hz6 hb6 hbw7 HB5 Z5
  go_wp2_with (first
    | (refine wpList_store_row rfl 38 (.tmp 9) (.tmp 31) rfl w6.heap.size state0 rfl rfl _ _ T7.out state_size rfl (by simp [Value.oneCell']) ?_; rw [HW7.out])
    | (refine wpList_load_row rfl 36 (.tmp 1) rfl w.heap.size rfl 36 (shotC i t v l d V vc L lc D dc) (0, 0) _ Z7.out Tryz.underlying36 rfl shot_size ?_))
  refine SK.out.mono ?_
  rintro e w8 ⟨rfl, b8⟩
  have hb8 := HB7.out.trans (b8.mono HB7.out.size)
  have AN := Lib.hid (lawAnswersS w8 ((HE.out.below hb8).up hb8.size))
  have HB8 := Lib.hid hb8
  clear SK b8 hb8 HB7 Z7 T7 HW7
  go_wp2_with (go_at_call 11; refine AN.out.mono ?_)
  rintro e w9 ⟨rfl, b9⟩
  have HB9 := Lib.hid (HB8.out.trans (b9.mono HB8.out.size))
  clear AN b9 HB8
  go_wp2_with fail
  refine (saveHard_nil _ _ rfl rfl).mono ?_
  rintro e w10 ⟨rfl, b10⟩
  have HB10 := Lib.hid (HB9.out.trans (b10.mono HB9.out.size))
  clear b10 HB9
  go_wp2_with (go_at_call 15; refine (saveLog_nil _).mono ?_)
  rintro e w11 ⟨rfl, b11⟩
  have HB11 := Lib.hid (HB10.out.trans (b11.mono HB10.out.size))
  clear b11 HB10
  go_wp2_with (go_at_call 9; refine lawFirst.mono ?_)
  rintro e w12 ⟨V12, rfl, _, b12⟩
  have HB12 := Lib.hid (HB11.out.trans (b12.mono HB11.out.size))
  clear b12 HB11
  go_wp2_with (go_at_call 22; refine (saveShot_nil 0 0 [1, 2] [] [] (some V12) 2 none 0 none 0).mono ?_)
  rintro e w13 ⟨rfl, b13⟩
  have HB13 := Lib.hid (HB12.out.trans (b13.mono HB12.out.size))
  clear b13 HB12
  go_wp2_with (go_at_call 16; refine storeState_nil.mono ?_)
  rintro e w14 ⟨rfl, b14⟩
  have HB14 := Lib.hid (HB13.out.trans (b14.mono HB13.out.size))
  clear b14 HB13
  have f3 := field_list (.int .u64 0) (.int .i64 0) (.int .u64 0) (.int .u64 0) (.slice none 0 0) (.slice none 0 0) (.slice none 0 0) (.slice none 0 0) w14
  unfold state0
  go_wp2_with fail
  go_ret
  exact ⟨rfl, HB14.out⟩
set_option maxRecDepth 20000 in
set_option maxHeartbeats 2500000 in
theorem walkNilYes (i t : Nat) (v l : List Int) (d : List UInt8) (V : Option Addr) (vc : Nat) (L : Option Addr) (lc : Nat) (D : Option Addr) (dc : Nat) (w : World) (hv : RV w V (ncells .i64 v)) (hl : RV w L (ncells .i64 l)) (hd : RB w D d)
    (hi : i ≤ 18446744073709551615) (ht : t ≤ 18446744073709551615) (hE : SEnv w.heap.size w) (hr : shotB i t v l d.length = true) :
    Calls Tryz.prog 4 #[.agg (shotC i t v l d V vc L lc D dc)] w fun e w' => e = .returned (.bool true) ∧ Below w.heap.size w w' := by
  obtain ⟨q1, q2, _, q4, q5⟩ := shotB_parts hr
  obtain ⟨q6, q7, q8⟩ := confB_parts q1
  have n1 := rises_len q6
  have n2 := rises_len q7
  have hal : Below w.heap.size w (w.alloc (.cells (shotC i t v l d V vc L lc D dc) 36)) := (Below.refl _ _).alloc (Nat.le_refl _) _
  have Z := Lib.hid (Blk.new w (shotC i t v l d V vc L lc D dc) 36)
  have ND := Lib.hid (diskNew 9000 (w.alloc (.cells (shotC i t v l d V vc L lc D dc) 36)) (by decide) (by decide))
  have hws : (w.alloc (.cells (shotC i t v l d V vc L lc D dc) 36)).heap.size = w.heap.size + 1 := by simp
  have HX := Lib.hid (And.intro hv (And.intro hl hd))
  have HAL := Lib.hid hal
  have HE := Lib.hid hE
  have HR := Lib.hid hr
  have HWS := Lib.hid hws
  clear hv hl hd hE hr hal q1 q6 q7 hws
  unfold shotC at *
  go_enter Tryz.func4, Tryz.ntmps4
  go_wp2_with fail
  refine ND.out.mono ?_
  rintro e w1 ⟨g, rfl, hD, b1⟩
  have hb1 := belowTrans HAL.out b1
  have Z1 := Lib.hid (Z.out.kept b1)
  have OS := Lib.hid (refOwnShot i t v l d V vc L lc D dc w1 (HX.out.1.below hb1) (HX.out.2.1.below hb1) (HX.out.2.2.below hb1) (by omega) (by omega) (by omega))
  have HB1 := Lib.hid hb1
  have HNS : Hid (∀ b, News (w.alloc (.cells #[.int .u64 (i : Int), .int .u64 (t : Int), .slice V v.length vc, .slice L l.length lc, .slice D d.length dc] 36)) w1 b → w.heap.size + 1 ≤ b ∧ b < w1.heap.size) := Lib.hid (fun b e => ⟨by have := e.1; rw [HWS.out] at this; exact this, e.2⟩)
  have HD := Lib.hid hD
  clear hD b1 hb1 Z HAL ND
  go_wp2_with (refine wpList_load_row rfl 36 (.tmp 1) rfl w.heap.size rfl 36 (shotC i t v l d V vc L lc D dc) (0, 0) _ Z1.out Tryz.underlying36 rfl shot_size ?_)
  refine OS.out.mono ?_
  rintro e w2 ⟨A, ac, Bb, bc, C, cc, rfl, o1, o2, o3, b2⟩
  have hb2 := HB1.out.trans (b2.mono HB1.out.size)
  have OP := Lib.hid (storeOpenYes (B := w.heap.size) (g := g) i t v l d A ac Bb bc C cc (HD.out.below b2) hb2.size (fun b e => by have := (HNS.out b e).1; omega) (HE.out.below hb2) o1.rv o2.rv o3.rb
    (fun _ k hk e => by have h1 := (o1.blk_lt k hk).1; have h2 := (HNS.out k e).2; omega) (fun _ k hk e => by have h1 := (o2.blk_lt k hk).1; have h2 := (HNS.out k e).2; omega) (fun _ k hk e => by have h1 := (o3.blk_in k hk).1; have h2 := (HNS.out k e).2; omega) HR.out)
  have Z2 := Lib.hid (Z1.out.kept b2)
  have HB2 := Lib.hid hb2
  clear o1 o2 o3 b2 hb2 OS HB1 Z1 HD
  go_wp2_with fail
  refine OP.out.mono ?_
  rintro e w3 ⟨q, ph, ps, pl, nb, A1, ac1, B1, bc1, C1, cc1, A', ac', B', bc', C', cc', rfl, hq, o1, o2, o3, hqw, hqn, m3, hy⟩
  have hb3 : Below w.heap.size w w3 := Mods.old HB2.out m3 HB2.out.size (fun k _ e => by have := (HNS.out k e).1; omega)
  have hb4 : Below w3.heap.size w3 (w3.alloc (.cells state0 38)) := (Below.refl _ _).alloc (Nat.le_refl _) _
  have T4 := Lib.hid (Blk.new w3 state0 38)
  have hB4 := below_setRow (g := w3.heap.size) hb4 (Nat.le_refl _) (stateC 0 0 i t v l d A' ac' B' bc' C' cc')
  obtain ⟨w4, hw4⟩ : ∃ w4, w4 = (w3.alloc (.cells state0 38)).setRow w3.heap.size (stateC 0 0 i t v l d A' ac' B' bc' C' cc') := ⟨_, rfl⟩
  rw [← hw4] at hB4
  have HW4 := Lib.hid hw4.symm
  have hz3 := Z2.out.mods m3 (fun e => by have := (HNS.out _ e).1; omega)
  have Z4 := Lib.hid (hz3.kept hB4)
  have HB4 := Lib.hid (hb3.trans (hB4.mono hb3.size))
  have G4 := Lib.hid (And.intro (hq.kept hB4) (And.intro (o1.below hB4) (And.intro (o2.below hB4) (o3.below hB4))))
  clear OP hb4 hB4 hw4 hz3 hb3 HB2 Z2 hq o1 o2 o3 m3 hy HNS
  go_wp2_with (refine wpList_store_row rfl 38 (.tmp 6) (.tmp 25) rfl w3.heap.size (stateC 0 0 i t v l d A' ac' B' bc' C' cc') rfl rfl _ _ T4.out state_size rfl (by simp [Value.oneCell']) ?_; rw [HW4.out])
  refine lawFirst.mono ?_
  rintro e w5 ⟨V5, rfl, _, b5⟩
  have Z5 := Lib.hid (Z4.out.kept b5)
  have HB5 := Lib.hid (HB4.out.trans (b5.mono HB4.out.size))
  have G5 := Lib.hid (And.intro (G4.out.1.kept b5) (And.intro (G4.out.2.1.below b5) (And.intro (G4.out.2.2.1.below b5) (G4.out.2.2.2.below b5))))
  clear b5 Z4 HB4 T4 HW4 G4
  go_wp2_with fail
  refine (storeOpenNil 0 0 [1, 2] [] [] (some V5) 2 none 0 none 0).mono ?_
  rintro e w6 ⟨rfl, b6⟩
  have hb7 : Below w6.heap.size w6 (w6.alloc (.cells state0 38)) := (Below.refl _ _).alloc (Nat.le_refl _) _
  have T7 := Lib.hid (Blk.new w6 state0 38)
  have hB7 := below_setRow (g := w6.heap.size) hb7 (Nat.le_refl _) state0
  obtain ⟨w7, hw7⟩ : ∃ w7, w7 = (w6.alloc (.cells state0 38)).setRow w6.heap.size state0 := ⟨_, rfl⟩
  rw [← hw7] at hB7
  have HW7 := Lib.hid hw7.symm
  have hz6 := Z5.out.kept b6
  have Z7 := Lib.hid (hz6.kept hB7)
  have hb6 := HB5.out.trans (b6.mono HB5.out.size)
  have hbw7 := hb6.trans (hB7.mono hb6.size)
  have hb57 := belowTrans b6 hB7
  have HB7 := Lib.hid hbw7
  have G7 := Lib.hid (And.intro (G5.out.1.kept hb57) (And.intro (G5.out.2.1.below hb57) (And.intro (G5.out.2.2.1.below hb57) (G5.out.2.2.2.below hb57))))
  have SK := Lib.hid (refShotOK i t v l d V vc L lc D dc w7 (HX.out.1.below hbw7) (HX.out.2.1.below hbw7) (by omega) (by omega) (by omega) hi ht true HR.out)
  clear b6 hb7 hB7 hw7 hz6 hb6 hbw7 HB5 Z5 hb57 G5
  go_wp2_with (first
    | (refine wpList_store_row rfl 38 (.tmp 9) (.tmp 31) rfl w6.heap.size state0 rfl rfl _ _ T7.out state_size rfl (by simp [Value.oneCell']) ?_; rw [HW7.out])
    | (refine wpList_load_row rfl 36 (.tmp 1) rfl w.heap.size rfl 36 (shotC i t v l d V vc L lc D dc) (0, 0) _ Z7.out Tryz.underlying36 rfl shot_size ?_))
  refine SK.out.mono ?_
  rintro e w8 ⟨rfl, b8⟩
  have hb8 := HB7.out.trans (b8.mono HB7.out.size)
  have AN := Lib.hid (lawAnswersS w8 ((HE.out.below hb8).up hb8.size))
  have HB8 := Lib.hid hb8
  have Z8 := Lib.hid (Z7.out.kept b8)
  have G8 := Lib.hid (And.intro (G7.out.1.kept b8) (And.intro (G7.out.2.1.below b8) (And.intro (G7.out.2.2.1.below b8) (G7.out.2.2.2.below b8))))
  clear SK b8 hb8 HB7 Z7 T7 HW7 G7
  go_wp2_with (go_at_call 11; refine AN.out.mono ?_)
  rintro e w9 ⟨rfl, b9⟩
  have HB9 := Lib.hid (HB8.out.trans (b9.mono HB8.out.size))
  have Z9 := Lib.hid (Z8.out.kept b9)
  have hq9 := G8.out.1.kept b9
  have p1 := G8.out.2.1.below b9
  have p2 := G8.out.2.2.1.below b9
  have p3 := G8.out.2.2.2.below b9
  have ST := Lib.hid (storeState 0 0 i t v l d A1 ac1 B1 bc1 C1 cc1 hq9 p1.rv p2.rv p3.rb (by omega) (by omega) (by omega))
  have G9 := Lib.hid (And.intro hq9 (And.intro p1 (And.intro p2 p3)))
  clear AN b9 HB8 Z8 G8 hq9 p1 p2 p3
  go_wp2_with (go_at_call 16; refine ST.out.mono ?_)
  rintro e w10 ⟨A2, ac2, B2, bc2, C2, cc2, rfl, s1, s2, s3, b10⟩
  have hv0 : 0 < (ncells .i64 v).length := by rw [ncells_length]; exact q8
  obtain ⟨yb, rfl⟩ : ∃ yb, A2 = some ⟨yb, 0, none⟩ := by
    rcases s1.form with ⟨_, _, hx⟩ | ⟨yb, hx, _⟩
    · rw [hx] at hv0; exact absurd hv0 (by decide)
    · exact ⟨yb, hx⟩
  have hyb := s1.blk_lt yb rfl
  have hb11 : Below w10.heap.size w10 (w10.alloc (.cells state0 38)) := (Below.refl _ _).alloc (Nat.le_refl _) _
  have T11 := Lib.hid (Blk.new w10 state0 38)
  have hB11 := below_setRow (g := w10.heap.size) hb11 (Nat.le_refl _) (stateC 0 0 i t v l d (some ⟨yb, 0, none⟩) ac2 B2 bc2 C2 cc2)
  have Y11 := T11.out.setRow (stateC 0 0 i t v l d (some ⟨yb, 0, none⟩) ac2 B2 bc2 C2 cc2)
  obtain ⟨w11, hw11⟩ : ∃ w11, w11 = (w10.alloc (.cells state0 38)).setRow w10.heap.size (stateC 0 0 i t v l d (some ⟨yb, 0, none⟩) ac2 B2 bc2 C2 cc2) := ⟨_, rfl⟩
  rw [← hw11] at hB11 Y11
  have HW11 := Lib.hid hw11.symm
  have s11 := s1.below hB11
  obtain ⟨z1, z2, _⟩ := s11.store (k := 0) hv0 (.int .i64 99)
  have hy4 := Y11.cell 4 (v := .slice (some ⟨yb, 0, none⟩) v.length ac2) rfl
  have hq8z : (0 : Int) < (v.length : Int) := by omega
  have B912 : Hid (Below w9.heap.size w9 (w11.setCell ⟨yb, 0, none⟩ (.int .i64 99))) := Lib.hid ((b10.trans (hB11.mono b10.size)).setCell (p := ⟨yb, 0, none⟩) hyb.1 _)
  clear ST s1 s2 s3 b10 hb11 hB11 Y11 hw11 s11
  go_wp2_with (refine wpList_store_row rfl 38 (.tmp 13) (.tmp 65) rfl w10.heap.size (stateC 0 0 i t v l d (some ⟨yb, 0, none⟩) ac2 B2 bc2 C2 cc2) rfl rfl _ _ T11.out state_size rfl (by simp [Value.oneCell']) ?_; rw [HW11.out])
  obtain ⟨w12, hw12⟩ : ∃ w12, w12 = w11.setCell ⟨yb, 0, none⟩ (.int .i64 99) := ⟨_, rfl⟩
  rw [← hw12] at B912 ⊢
  clear hw12 z1 z2 hy4 T11 HW11
  refine wp_region_planE_gen (by kernel_rfl) [(0, none), (3, none), (1, some [0]), (2, none), (4, some [2, 3]), (5, none)] (by kernel_rfl) (by kernel_rfl) (by decide) ?_
  intro wq hwq
  have hbq : Below w9.heap.size w9 wq := by rw [hwq]; exact B912.out.drew
  have hz := Z9.out.kept hbq
  have c0 := hz.cell 0 (v := .int .u64 (i : Int)) rfl
  have c1 := hz.cell 1 (v := .int .u64 (t : Int)) rfl
  have c2 := hz.cell 2 (v := .slice V v.length vc) rfl
  have c3 := hz.cell 3 (v := .slice L l.length lc) rfl
  have c4 := hz.cell 4 (v := .slice D d.length dc) rfl
  have HZq := Lib.hid hz
  have HBQ := Lib.hid (HB9.out.trans (hbq.mono HB9.out.size))
  have GQ := Lib.hid (And.intro (G9.out.1.kept hbq) (And.intro (G9.out.2.1.below hbq) (And.intro (G9.out.2.2.1.below hbq) (G9.out.2.2.2.below hbq))))
  clear hwq hbq hz B912 Z9 G9
  iterate 1 (refine planE_pure (v := ?_) rfl (by rfl) (fun w' => ?_) ?_; rotate_left; (focus (simp only [List.getElem_toArray, List.getElem_cons_succ, List.getElem_cons_zero]; go_simp; first | with_reducible rfl | (simp (disch := omega) only [if_pos, if_neg, dif_pos, Result.andThen_ok]; try with_reducible rfl) | skip)); try simp only [List.getElem_toArray, List.getElem_cons_succ, List.getElem_cons_zero, Act.put, List.setIfInBounds_toArray, List.set_cons_zero, List.set_cons_succ])
  refine planE_cells (v := ?_) [(⟨w.heap.size, 0, none⟩, .int .u64 (i : Int)), (⟨w.heap.size, 1, none⟩, .int .u64 (t : Int)), (⟨w.heap.size, 2, none⟩, .slice V v.length vc), (⟨w.heap.size, 3, none⟩, .slice L l.length lc), (⟨w.heap.size, 4, none⟩, .slice D d.length dc)] (by simp; and_intros <;> assumption) rfl (by rfl) (fun w' hw' => ?_) ?_; rotate_left; (focus (simp only [List.forall_mem_cons, List.not_mem_nil, false_imp_iff, implies_true, and_true] at hw'; simp only [List.getElem_toArray, List.getElem_cons_succ, List.getElem_cons_zero]; go_simp; first | with_reducible rfl | (simp (disch := omega) only [if_pos, if_neg, dif_pos, Result.andThen_ok]; try with_reducible rfl) | skip)); try simp only [List.getElem_toArray, List.getElem_cons_succ, List.getElem_cons_zero, Act.put, List.setIfInBounds_toArray, List.set_cons_zero, List.set_cons_succ]
  refine planE_eff rfl (by rfl) (fun K hK => ?_)
  go_simp
  refine (storeState 0 0 i t v l d A1 ac1 B1 bc1 C1 cc1 GQ.out.1 GQ.out.2.1.rv GQ.out.2.2.1.rv GQ.out.2.2.2.rb (by omega) (by omega) (by omega)).mono ?_
  rintro e w13 ⟨A3, ac3, B3, bc3, C3, cc3, rfl, u1, u2, u3, b13⟩
  have hz13 := HZq.out.kept b13
  have d0 := hz13.cell 0 (v := .int .u64 (i : Int)) rfl
  have d1 := hz13.cell 1 (v := .int .u64 (t : Int)) rfl
  have d2 := hz13.cell 2 (v := .slice V v.length vc) rfl
  have d3 := hz13.cell 3 (v := .slice L l.length lc) rfl
  have d4 := hz13.cell 4 (v := .slice D d.length dc) rfl
  have hb13 := HBQ.out.trans (b13.mono HBQ.out.size)
  have HB13q := Lib.hid hb13
  have SS := Lib.hid (refSameShot i t i t v l v l d d A3 B3 C3 V L D ac3 bc3 cc3 vc lc dc w13 u1.rv u2.rv u3.rb (HX.out.1.below hb13) (HX.out.2.1.below hb13) (HX.out.2.2.below hb13) (by omega) (by omega) (by omega) (by omega) true (by simp))
  have hfd := fun w' => field_shot (.int .u64 0) (.int .i64 0) (.int .u64 (i : Int)) (.int .u64 (t : Int)) (.slice A3 v.length ac3) (.slice B3 l.length bc3) (.slice C3 d.length cc3) (.slice none 0 0) w'
  unfold stateC
  clear c0 c1 c2 c3 c4 u1 u2 u3 b13 hz13 hb13 HZq HBQ GQ
  refine hK _ _ (by first | (simp <;> (and_intros <;> first | trivial | assumption)) | (simp [owed] <;> (and_intros <;> first | trivial | assumption)) | (simp [owed, left] <;> (and_intros <;> first | trivial | assumption))) ?_
  clear hK K
  try simp only [List.getElem_toArray, List.getElem_cons_succ, List.getElem_cons_zero, Act.put, List.setIfInBounds_toArray, List.set_cons_zero, List.set_cons_succ]
  iterate 1 (refine planE_pure (v := ?_) rfl (by rfl) (fun w' => ?_) ?_; rotate_left; (focus (simp only [List.getElem_toArray, List.getElem_cons_succ, List.getElem_cons_zero]; go_simp; first | with_reducible rfl | (simp (disch := omega) only [if_pos, if_neg, dif_pos, Result.andThen_ok]; try with_reducible rfl) | skip)); try simp only [List.getElem_toArray, List.getElem_cons_succ, List.getElem_cons_zero, Act.put, List.setIfInBounds_toArray, List.set_cons_zero, List.set_cons_succ])
  refine planE_eff rfl (by rfl) (fun K hK => ?_)
  go_simp
  refine SS.out.mono ?_
  rintro e w14 ⟨rfl, b14⟩
  have HB19 := Lib.hid (HB13q.out.trans (b14.mono HB13q.out.size))
  clear SS b14 d0 d1 d2 d3 d4 hfd HB13q
  refine hK _ _ (by first | (simp <;> (and_intros <;> first | trivial | assumption)) | (simp [owed] <;> (and_intros <;> first | trivial | assumption)) | (simp [owed, left] <;> (and_intros <;> first | trivial | assumption))) ?_
  clear hK K
  try simp only [List.getElem_toArray, List.getElem_cons_succ, List.getElem_cons_zero, Act.put, List.setIfInBounds_toArray, List.set_cons_zero, List.set_cons_succ]
  iterate 1 (refine planE_pure (v := ?_) rfl (by rfl) (fun w' => ?_) ?_; rotate_left; (focus (simp only [List.getElem_toArray, List.getElem_cons_succ, List.getElem_cons_zero]; go_simp; first | with_reducible rfl | (simp (disch := omega) only [if_pos, if_neg, dif_pos, Result.andThen_ok]; try with_reducible rfl) | skip)); try simp only [List.getElem_toArray, List.getElem_cons_succ, List.getElem_cons_zero, Act.put, List.setIfInBounds_toArray, List.set_cons_zero, List.set_cons_succ])
  refine planE_end ?_
  clear HB9
  go_wp2_with fail
  refine (saveHard_nil _ _ rfl rfl).mono ?_
  rintro e w20 ⟨rfl, b10⟩
  have HB10 := Lib.hid (HB19.out.trans (b10.mono HB19.out.size))
  clear b10 HB19
  go_wp2_with (go_at_call 15; refine (saveLog_nil _).mono ?_)
  rintro e w21 ⟨rfl, b11⟩
  have HB11 := Lib.hid (HB10.out.trans (b11.mono HB10.out.size))
  clear b11 HB10
  go_wp2_with (go_at_call 9; refine lawFirst.mono ?_)
  rintro e w22 ⟨V12, rfl, _, b12⟩
  have HB12 := Lib.hid (HB11.out.trans (b12.mono HB11.out.size))
  clear b12 HB11
  go_wp2_with (go_at_call 22; refine (saveShot_nil 0 0 [1, 2] [] [] (some V12) 2 none 0 none 0).mono ?_)
  rintro e w23 ⟨rfl, b13⟩
  have HB13 := Lib.hid (HB12.out.trans (b13.mono HB12.out.size))
  clear b13 HB12
  go_wp2_with (go_at_call 16; refine storeState_nil.mono ?_)
  rintro e w24 ⟨rfl, b14⟩
  have HB14 := Lib.hid (HB13.out.trans (b14.mono HB13.out.size))
  clear b14 HB13
  have f3 := field_list (.int .u64 0) (.int .i64 0) (.int .u64 0) (.int .u64 0) (.slice none 0 0) (.slice none 0 0) (.slice none 0 0) (.slice none 0 0) w24
  unfold state0
  go_wp2_with fail
  go_ret
  exact ⟨rfl, HB14.out⟩
end
end Go.Proofs.YtobdmlejabjmiaaGreatDoor


/- A law's argument that is a struct itself: its fields are numbers, bools, strings and lists of bytes. -/
namespace Go.Proofs.YtobdmlejabjmiaaGreatDoor
set_option maxRecDepth 20000
open Go.ChangeShapes Go.WideShapes Go.ChangeAt Go.RowKit Go.Deep
section
variable {H : Type} {enc : TypeId × Value → H} {W : World}
end
end Go.Proofs.YtobdmlejabjmiaaGreatDoor


/- A law's argument that is a struct, or a slice of structs, of which a field may be a struct itself. -/
namespace Go.Proofs.YtobdmlejabjmiaaGreatDoor
set_option maxRecDepth 20000
open Go.ChangeShapes Go.WideShapes Go.ChangeAt Go.RowKit Go.Deep

inductive NK where
  | one (k : FK) | sub (ks : List FK)
def nkFlat : List NK → List FK
  | [] => []
  | .one k :: r => k :: nkFlat r
  | .sub ks :: r => ks ++ nkFlat r
def nkCells : List NK → Nat
  | [] => 0
  | .one _ :: r => 1 + nkCells r
  | .sub ks :: r => ks.length + nkCells r
def subOk (P : Program) (t : TypeId) (ks : List FK) : Bool := match P.underlying t with
  | some (.struct gs) => P.cellsOf t == gs.size && oneCellFields P gs && kindsOk P ks gs.toList && gs.size == ks.length
  | _ => false
def nkOk (P : Program) : Nat → List NK → List Field → Bool
  | _, [], [] => true
  | o, .one k :: r, f :: fs => f.offset == o && P.cellsOf f.type == 1 && k.is P f.type && nkOk P (o + 1) r fs
  | o, .sub ks :: r, f :: fs => f.offset == o && subOk P f.type ks && nkOk P (o + ks.length) r fs
  | _, _, _ => false
section
variable {H : Type} {enc : TypeId × Value → H} {W : World}
end
end Go.Proofs.YtobdmlejabjmiaaGreatDoor


/- A snapshot among a law's arguments; the walk of StoreNil from what the listed variables hold. -/
namespace Go.Proofs.YtobdmlejabjmiaaGreatDoor
set_option maxRecDepth 20000
open Go.ChangeShapes Go.WideShapes Go.ChangeAt Go.RowKit Go.Deep
section
variable {H : Type} {enc : TypeId × Value → H} {W : World}
/-- A slice of whole numbers, read. -/
theorem ints_of_trod {v : Value} {y : DataW H × List MemPlace} {fuel : Nat} (h : DataW.trod enc Tryz.prog W 0 (fun _ => true) true fuel 31 [v] = some y) (hw : (y.1.weights Tryz.prog 31).all (· ≤ reachBytes) = true) :
    ∃ (A : Option Addr) (c : Nat) (l : List Int), v = .slice A l.length c ∧ RV W A (ncells .i64 l) ∧ l.length * 8 ≤ 140737488351232 := by
  obtain ⟨A, c, zs, hcs, hcm⟩ := came_trod Tryz.underlying31 Tryz.underlying3 (by kernel_rfl) h
  simp only [List.cons.injEq, and_true] at hcs
  refine ⟨A, c, zs, hcs, hcm.reads, ?_⟩
  rcases hcm.datum with ⟨_, hz⟩ | ⟨elems, spare, hy, hel⟩
  · rw [hz]; simp
  · rw [hy] at hw
    have hb : Tryz.prog.bytesOf 3 = 8 := by kernel_rfl
    simp only [DataW.weights, Tryz.underlying31, List.all_cons, Bool.and_eq_true, decide_eq_true_eq, hb] at hw
    have := hw.1
    unfold reachBytes at this
    omega
theorem conf_of_trod {cs : List Value} {y : DataW H × List MemPlace} {fuel : Nat} (h : DataW.trod enc Tryz.prog W 0 (fun _ => true) true fuel 33 cs = some y) (hw : (y.1.weights Tryz.prog 33).all (· ≤ reachBytes) = true) :
    ∃ (V : Option Addr) (vc : Nat) (v : List Int) (L : Option Addr) (lc : Nat) (l : List Int), cs = [.slice V v.length vc, .slice L l.length lc] ∧ RV W V (ncells .i64 v) ∧ v.length * 8 ≤ 140737488351232 ∧ RV W L (ncells .i64 l) ∧ l.length * 8 ≤ 140737488351232 := by
  obtain ⟨ys, m', _, hy, hlen, hyl, hg⟩ := DataW.trod_struct Tryz.underlying33 h
  rw [hy] at hw
  have hl : cs.length = 2 := by rw [hlen]; kernel_rfl
  match cs, hl with
  | [a, b], _ =>
    have hyl' : ys.length = 2 := hyl
    have e0 : ys[0]? = some ys[0] := List.getElem?_eq_getElem (by omega)
    have e1 : ys[1]? = some ys[1] := List.getElem?_eq_getElem (by omega)
    have c31 : Tryz.prog.cellsOf 31 = 1 := by kernel_rfl
    have h0 : DataW.trod enc Tryz.prog W 0 (fun _ => true) true m' 31 (([a, b].drop 0).take (Tryz.prog.cellsOf 31)) = ys[0]? := hg 0 _ rfl
    have h1 : DataW.trod enc Tryz.prog W 0 (fun _ => true) true m' 31 (([a, b].drop 1).take (Tryz.prog.cellsOf 31)) = ys[1]? := hg 1 _ rfl
    rw [e0, c31] at h0
    rw [e1, c31] at h1
    replace h0 : DataW.trod enc Tryz.prog W 0 (fun _ => true) true m' 31 [a] = some ys[0] := h0
    replace h1 : DataW.trod enc Tryz.prog W 0 (fun _ => true) true m' 31 [b] = some ys[1] := h1
    have w0 : (ys[0].1.weights Tryz.prog 31).all (· ≤ reachBytes) = true := weights_struct_field (j := 0) Tryz.underlying33 hw rfl (by rw [List.getElem?_map, e0]; rfl)
    have w1 : (ys[1].1.weights Tryz.prog 31).all (· ≤ reachBytes) = true := weights_struct_field (j := 1) Tryz.underlying33 hw rfl (by rw [List.getElem?_map, e1]; rfl)
    obtain ⟨V, vc, v, rfl, hv, hvl⟩ := ints_of_trod h0 w0
    obtain ⟨L, lc, l, rfl, hl, hll⟩ := ints_of_trod h1 w1
    exact ⟨V, vc, v, L, lc, l, rfl, hv, hvl, hl, hll⟩
theorem cameShot {base : Nat} {x : Value} {dt : DataW H} {p : List MemPlace} (hx : Value.okWide Tryz.prog W .any base 36 x) (h : DataW.Trod enc Tryz.prog W 0 (fun _ => true) true 36 x dt p) (hw : (dt.weights Tryz.prog 36).all (· ≤ reachBytes) = true) :
    ∃ (i t : Nat) (v l : List Int) (d : List UInt8) (V : Option Addr) (vc : Nat) (L : Option Addr) (lc : Nat) (D : Option Addr) (dc : Nat), x = .agg (shotC i t v l d V vc L lc D dc) ∧ RV W V (ncells .i64 v) ∧ RV W L (ncells .i64 l) ∧ RB W D d ∧ v.length * 8 ≤ 140737488351232 ∧ l.length * 8 ≤ 140737488351232 ∧ d.length ≤ 140737488351232 ∧ i ≤ 18446744073709551615 ∧ t ≤ 18446744073709551615 := by
  obtain ⟨cs0, rfl, hcs0⟩ := okWide_struct Tryz.underlying36 hx
  obtain ⟨fuel, hf⟩ := h
  obtain ⟨ys, m', _, hy, hlen, hyl, hg⟩ := DataW.trod_struct Tryz.underlying36 hf
  have hcl : (Value.agg cs0).cells.toList = cs0.toList := rfl
  have hy1 : dt = .agg (ys.map (·.1)) := by simpa using congrArg Prod.fst hy
  rw [hy1] at hw
  generalize hcs : (Value.agg cs0).cells.toList = cs at *
  have hl : cs.length = 5 := by rw [hlen]; kernel_rfl
  match cs, hl with
  | [a, b, c, d, e], _ =>
    have hyl' : ys.length = 4 := hyl
    have e0 : ys[0]? = some ys[0] := List.getElem?_eq_getElem (by omega)
    have e1 : ys[1]? = some ys[1] := List.getElem?_eq_getElem (by omega)
    have e2 : ys[2]? = some ys[2] := List.getElem?_eq_getElem (by omega)
    have e3 : ys[3]? = some ys[3] := List.getElem?_eq_getElem (by omega)
    have c23 : Tryz.prog.cellsOf 23 = 1 := by kernel_rfl
    have c33 : Tryz.prog.cellsOf 33 = 2 := by kernel_rfl
    have c34 : Tryz.prog.cellsOf 34 = 1 := by kernel_rfl
    have h0 : DataW.trod enc Tryz.prog W 0 (fun _ => true) true m' 23 (([a, b, c, d, e].drop 0).take (Tryz.prog.cellsOf 23)) = ys[0]? := hg 0 _ rfl
    rw [e0, c23] at h0
    replace h0 : DataW.trod enc Tryz.prog W 0 (fun _ => true) true m' 23 [a] = some ys[0] := h0
    have w0 : (ys[0].1.weights Tryz.prog 23).all (· ≤ reachBytes) = true := weights_struct_field (j := 0) Tryz.underlying36 hw rfl (by rw [List.getElem?_map, e0]; rfl)
    have h1 : DataW.trod enc Tryz.prog W 0 (fun _ => true) true m' 23 (([a, b, c, d, e].drop 1).take (Tryz.prog.cellsOf 23)) = ys[1]? := hg 1 _ rfl
    rw [e1, c23] at h1
    replace h1 : DataW.trod enc Tryz.prog W 0 (fun _ => true) true m' 23 [b] = some ys[1] := h1
    have w1 : (ys[1].1.weights Tryz.prog 23).all (· ≤ reachBytes) = true := weights_struct_field (j := 1) Tryz.underlying36 hw rfl (by rw [List.getElem?_map, e1]; rfl)
    have h2 : DataW.trod enc Tryz.prog W 0 (fun _ => true) true m' 33 (([a, b, c, d, e].drop 2).take (Tryz.prog.cellsOf 33)) = ys[2]? := hg 2 _ rfl
    rw [e2, c33] at h2
    replace h2 : DataW.trod enc Tryz.prog W 0 (fun _ => true) true m' 33 [c, d] = some ys[2] := h2
    have w2 : (ys[2].1.weights Tryz.prog 33).all (· ≤ reachBytes) = true := weights_struct_field (j := 2) Tryz.underlying36 hw rfl (by rw [List.getElem?_map, e2]; rfl)
    have h3 : DataW.trod enc Tryz.prog W 0 (fun _ => true) true m' 34 (([a, b, c, d, e].drop 4).take (Tryz.prog.cellsOf 34)) = ys[3]? := hg 3 _ rfl
    rw [e3, c34] at h3
    replace h3 : DataW.trod enc Tryz.prog W 0 (fun _ => true) true m' 34 [e] = some ys[3] := h3
    have w3 : (ys[3].1.weights Tryz.prog 34).all (· ≤ reachBytes) = true := weights_struct_field (j := 3) Tryz.underlying36 hw rfl (by rw [List.getElem?_map, e3]; rfl)
    obtain ⟨f0, hf0, k0⟩ := field_of_trod (k := .int .u64) (by kernel_rfl) h0 w0
    obtain ⟨f1, hf1, k1⟩ := field_of_trod (k := .int .u64) (by kernel_rfl) h1 w1
    obtain ⟨f3, hf3, k3⟩ := field_of_trod (k := .bytes) (by kernel_rfl) h3 w3
    obtain ⟨V, vc, v, L, lc, l, hcd, hv, hvl, hl2, hll⟩ := conf_of_trod h2 w2
    simp only [List.cons.injEq, and_true] at hcd
    obtain ⟨rfl, rfl⟩ := hcd
    cases f0 with
    | int u0 n0 =>
      obtain ⟨rfl, q0⟩ := k0
      cases f1 with
      | int u1 n1 =>
        obtain ⟨rfl, q1⟩ := k1
        cases f3 with
        | bytes D dc dd =>
          obtain ⟨r1, r2, r3, r4⟩ := k3
          have b0 := u64_of_wf q0
          have b1 := u64_of_wf q1
          refine ⟨n0.toNat, n1.toNat, v, l, dd, V, vc, L, lc, D, dc, ?_, hv, hl2, r1, hvl, hll, r4, by omega, by omega⟩
          have e5 : cs0 = [a, b, .slice V v.length vc, .slice L l.length lc, e].toArray := by rw [← hcs]; simp [Value.cells]
          rw [e5, hf0, hf1, hf3]
          unfold shotC
          have g0 : ((n0.toNat : Nat) : Int) = n0 := by omega
          have g1 : ((n1.toNat : Nat) : Int) = n1 := by omega
          rw [g0, g1]
          rfl
        | _ => exact k3.elim
      | _ => exact k1.elim
    | _ => exact k0.elim
end
theorem walkStoreNil (i t : Nat) (v l : List Int) (d : List UInt8) (V : Option Addr) (vc : Nat) (L : Option Addr) (lc : Nat) (D : Option Addr) (dc : Nat) (w : World) (hv : RV w V (ncells .i64 v)) (hl : RV w L (ncells .i64 l)) (hd : RB w D d)
    (hn : v.length * 8 ≤ 140737488351232) (hm : l.length * 8 ≤ 140737488351232) (hdl : d.length ≤ 140737488351232) (hi : i ≤ 18446744073709551615) (ht : t ≤ 18446744073709551615) (hE : SEnv w.heap.size w) :
    Calls Tryz.prog 4 #[.agg (shotC i t v l d V vc L lc D dc)] w fun e w' => e = .returned (.bool true) ∧ Below w.heap.size w w' := by
  cases hr : shotB i t v l d.length with
  | false => exact walkNilNo i t v l d V vc L lc D dc w hv hl hd (by omega) (by omega) (by omega) hi ht hE hr
  | true => exact walkNilYes i t v l d V vc L lc D dc w hv hl hd hi ht hE hr
theorem walkStoreNilC (i t : Nat) (v l : List Int) (d : List UInt8) (V : Option Addr) (vc : Nat) (L : Option Addr) (lc : Nat) (D : Option Addr) (dc : Nat) (w : World) (hv : RV w V (ncells .i64 v)) (hl : RV w L (ncells .i64 l)) (hd : RB w D d)
    (hn : v.length * 8 ≤ 140737488351232) (hm : l.length * 8 ≤ 140737488351232) (hdl : d.length ≤ 140737488351232) (hi : i ≤ 18446744073709551615) (ht : t ≤ 18446744073709551615) (hL : laidMetH Tryz.prog Rows.storeNilRow.laid w) :
    Calls Tryz.prog 4 #[.agg (shotC i t v l d V vc L lc D dc)] w fun e w' => e = .returned (.bool true) ∧ Below w.heap.size w w' :=
  walkStoreNil i t v l d V vc L lc D dc w hv hl hd hn hm hdl hi ht (senv_of hL (by kernel_rfl) (by simp [Rows.storeNilRow]) (by simp [Rows.storeNilRow]) (by simp [Rows.storeNilRow]))
end Go.Proofs.YtobdmlejabjmiaaGreatDoor

