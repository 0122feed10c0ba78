/- Put together of: StoM, StoN, StoO. -/
import Derived.Test.YtobdmlejabjmiaaGreatDoorZa27
/- Contract of a store's Open on a new disk, its first snapshot sound. -/
namespace Go.Proofs.YtobdmlejabjmiaaGreatDoor
open Go.RowKit
theorem SR.keepT {B p g cv co q : Nat} {S : Nat → Prop} {w w' : World} {s : Sl} {D : DSt} {V O : Option Addr} {T : TypeId} {cs : Array Value} (h : SR B S w p g s D V cv O co) (m : Mods (· = q) w w') (hq : Blk w q T cs) (h1 : TS ≠ T) (h2 : T ≠ 5) (h3 : T ≠ 9) (hS : ¬ S q) : SR B S w' p g s D V cv O co :=
  ⟨h.blk.mods m (fun e => h.blk.ne hq h1 e), h.di.mods m (fun b _ hs e => hS (by rw [← e]; exact hs)), h.val.mods m (fun k hk e => h.val.ne_blk hq h2 (by rw [hk, e])), h.old.mods m (fun k hk e => h.old.ne_blk hq h3 (by rw [hk, e])), h.ge, h.sge, h.ps, h.vs, h.os, h.bl, h.on⟩
theorem rest1 : Rest (dsk1 9000) := ⟨rfl, rfl, rfl⟩
theorem names1 : namesD (dsk1 9000) = [[119, 46, 48, 46, 49]] := by
  rw [rest1.names, ← walName_01]; rfl
section
variable {B g : Nat} {S : Nat → Prop} {w w' : World}
abbrev storeI (g : Nat) (ph ps pl : Option Addr) : Array Value :=
  #[.pointer (some ⟨g, 0, none⟩), .int .u64 0, .int .i64 0, .int .u64 0, .int .u64 0, .slice none 0 0, .slice none 0 0, .slice none 0 0, .slice none 0 0, .pointer ph, .pointer ps, .pointer pl, .bool false]
set_option maxRecDepth 20000 in
set_option maxHeartbeats 1500000 in
theorem storeOpenYes (i t : Nat) (v l : List Int) (d : List UInt8) (V : Option Addr) (vc : Nat) (L : Option Addr) (lc : Nat) (Dd : Option Addr) (dc : Nat)
    (hD : DI S w g (dsk0 9000)) (hB : B ≤ w.heap.size) (hS : ∀ b, S b → B ≤ b) (hE : SEnv B w) (hv : RV w V (ncells .i64 v)) (hl : RV w L (ncells .i64 l)) (hd : RB w Dd d)
    (hVS : 0 < v.length → ∀ k, V.map (·.block) = some k → ¬ S k) (hLS : 0 < l.length → ∀ k, L.map (·.block) = some k → ¬ S k) (hDS : 0 < d.length → ∀ k, Dd.map (·.block) = some k → ¬ S k) (hr : shotB i t v l d.length = true) :
    Calls Tryz.prog 8 #[.pointer (some ⟨g, 0, none⟩), .agg (shotC i t v l d V vc L lc Dd dc)] w (OpenYes B S w g i t v l d) := by
  obtain ⟨q1, q2, _, q4, q5⟩ := shotB_parts hr
  obtain ⟨q6, q7, _⟩ := confB_parts q1
  have n1 := rises_len q6
  have n2 := rises_len q7
  have hal : Below w.heap.size w ((w.alloc (.cells (shotC i t v l d V vc L lc Dd dc) 36)).alloc (.cells state0 38)) := ((Below.refl _ _).alloc (Nat.le_refl _) _).alloc (by simp) _
  have Z1 := (Blk.new w (shotC i t v l d V vc L lc Dd dc) 36).below (((Below.refl (w.heap.size + 1) _).alloc (by simp) (.cells state0 38))) (Nat.lt_succ_self _)
  have hZ2 := Blk.new (w.alloc (.cells (shotC i t v l d V vc L lc Dd dc) 36)) state0 38
  have hws : (w.alloc (.cells (shotC i t v l d V vc L lc Dd dc) 36)).heap.size = w.heap.size + 1 := by simp
  have hws2 : ((w.alloc (.cells (shotC i t v l d V vc L lc Dd dc) 36)).alloc (.cells state0 38)).heap.size = w.heap.size + 2 := by simp
  rw [hws] at hZ2
  have MS := Lib.hid (msgShot i t v l d V vc L lc Dd dc _ (hv.below hal) (hl.below hal) (hd.below hal) (by omega) (by omega) (by omega) (by omega) (by omega) true hr)
  have O0 : Hid (OA S i t v l d V vc L lc Dd dc w ((w.alloc (.cells (shotC i t v l d V vc L lc Dd dc) 36)).alloc (.cells state0 38))) := Lib.hid
    { n0 := Z1, t5 := hZ2, rv := hv.below hal, rl := hl.below hal, rd := hd.below hal, md := Mods.of_below hal, sb := hD.bnd,
      vs := fun h0 k hk => ⟨rv_lt hv (by rw [ncells_length]; exact h0) k hk, hVS h0 k hk⟩,
      ls := fun h0 k hk => ⟨rv_lt hl (by rw [ncells_length]; exact h0) k hk, hLS h0 k hk⟩,
      ds := fun h0 k hk => ⟨hd.blk_lt h0 k hk, hDS h0 k hk⟩ }
  have HD := Lib.hid hD
  have HE := Lib.hid hE
  have HS := Lib.hid hS
  have HWS := Lib.hid hws2
  have HAL := Lib.hid hal
  have N0 := Lib.hid Z1
  clear hal Z1 hZ2 hws hws2 hv hl hd hr hD hE hS hVS hLS hDS q1 q6 q7
  unfold shotC state0 at *
  go_enter Tryz.func8, Tryz.ntmps8
  go_wp2_with (refine wpList_load_row rfl 36 (.tmp 3) rfl w.heap.size rfl 36 (shotC i t v l d V vc L lc Dd dc) (0, 0) _ N0.out Tryz.underlying36 rfl shot_size ?_)
  refine MS.out.mono ?_
  rintro e w1 ⟨A0, k0, c0, e0, rfl, b1, p1, p2⟩
  obtain ⟨rfl, _⟩ := p2 rfl
  rw [HWS.out] at b1
  -- the store
  have O1 := O0.out.step (Mods.of_below (S := fun _ => False) (by rw [HWS.out]; exact b1)) (fun b e => e.elim)
  have hsz1 : w.heap.size + 2 ≤ w1.heap.size := by have := b1.size; rw [HWS.out] at this; exact this
  have hb2 : Below w1.heap.size w1 (w1.alloc (.cells (storeI g none none none) 72)) := (Below.refl _ _).alloc (Nat.le_refl _) _
  have QN := Blk.new w1 (storeI g none none none) 72
  have O2 := O1.step (Mods.of_below (S := fun _ => False) hb2) (fun b e => e.elim)
  have hbw : Below w.heap.size w w1 := HAL.out.trans (b1.mono (by omega))
  have HBW := hbw.trans (hb2.mono (by omega))
  have D2 := HD.out.below HBW
  have E2 := HE.out.below (HBW.mono hB)
  obtain ⟨q, hq⟩ : ∃ q, q = w1.heap.size := ⟨_, rfl⟩
  obtain ⟨w2, hw2⟩ : ∃ w2, w2 = w1.alloc (.cells (storeI g none none none) 72) := ⟨_, rfl⟩
  rw [← hw2] at QN O2 D2 E2 HBW
  rw [← hq] at QN hsz1
  have hs2 : w2.heap.size = q + 1 := by rw [hw2, hq]; simp
  have SO1 := Lib.hid (srOpen D2 HS.out (Nat.le_trans hB HBW.size) E2 base_hard rest0 (by decide) (fun p hp => by cases hp) (fun p hp => by cases hp) (openNew nmHard))
  have Q2 := Lib.hid QN
  have P2 := Lib.hid O2
  have HB2 := Lib.hid HBW
  have HQW := Lib.hid (And.intro hq hw2)
  clear MS b1 p1 p2 O0 O1 QN O2 D2 E2 HBW hb2 hbw HAL N0 HWS hq hw2
  unfold nmHard at SO1
  go_wp2_with fail
  rw [← HQW.out.2, ← HQW.out.1]
  refine SO1.out.mono ?_
  rintro e w3 ⟨p1, S1, V1, cv1, U1, co1, rfl, r1, k1, m1, j1⟩
  -- hard is stored
  have hqS1 : ¬ S1 q := fun e => (k1 _ e).elim (fun e => by have := HD.out.bnd _ e; omega) (fun e => by omega)
  have Q3 := Q2.out.mods m1 (fun e => by have := HD.out.bnd _ e; omega)
  have O3 := P2.out.step m1 (fun b e => .inl e)
  have M4 : Mods (· = q) w3 (w3.setCell ⟨q, 9, none⟩ (.pointer (some ⟨p1, 0, none⟩))) := Mods.setCell (S := (· = q)) (Mods.refl (· = q) w3) ⟨q, 9, none⟩ (.inl rfl) _
  have Q4 : Blk (w3.setCell ⟨q, 9, none⟩ (.pointer (some ⟨p1, 0, none⟩))) q 72 (storeI g (some ⟨p1, 0, none⟩) none none) := Q3.setCell 9 (.pointer (some ⟨p1, 0, none⟩))
  have O4 := O3.step M4 (fun b e => .inr (by omega))
  have R4 := r1.keepq M4 Q3 hqS1
  have c9 := Q3.cell 9 (v := .pointer none) rfl
  have f9 := Q3.free 9
  have hm4 := M4.size
  have hm1 := m1.size
  have BB4 : Below B w (w3.setCell ⟨q, 9, none⟩ (.pointer (some ⟨p1, 0, none⟩))) := Mods.old (Below.refl B w) O4.md hB (fun b _ e => HS.out b e)
  obtain ⟨w4, hw4⟩ : ∃ w4, w4 = w3.setCell ⟨q, 9, none⟩ (.pointer (some ⟨p1, 0, none⟩)) := ⟨_, rfl⟩
  rw [← hw4] at M4 Q4 O4 R4 hm4 BB4
  have hsz4 : w.heap.size ≤ w4.heap.size := O4.md.size
  have E4 := HE.out.below BB4
  have SO2 := Lib.hid (srOpen R4.di R4.sge (Nat.le_trans hB hsz4) E4 base_shot rest0 (by decide) (fun p hp => by cases hp) (fun p hp => by cases hp) (openNew nmShot))
  have HK1 : Hid (∀ b, S1 b → S b ∨ w.heap.size + 2 ≤ b) := Lib.hid (fun b e => (k1 b e).elim .inl (fun e => .inr (by omega)))
  have G4 := Lib.hid (And.intro Q4 (And.intro O4 (And.intro R4 (And.intro hw4 hqS1))))
  clear SO1 r1 k1 Q3 O3 M4 Q4 O4 R4 hw4 E4 P2 Q2 hqS1
  unfold nmShot at SO2
  go_wp2_with fail
  rw [← G4.out.2.2.2.1]
  refine SO2.out.mono ?_
  rintro e w5 ⟨p2, S2, V2, cv2, U2, co2, rfl, r2, k2, m2, j2⟩
  obtain ⟨Q4, O4, R4, hw4, hqS1⟩ := G4.out
  have hq4 := Q4.lt
  have hqS2 : ¬ S2 q := fun e => (k2 _ e).elim hqS1 (fun e => by omega)
  have Q5 := Q4.mods m2 hqS1
  have O5 := O4.step m2 HK1.out
  have R5 := R4.moved (Nat.le_trans hB hsz4) r2.di k2 m2
  have M6 : Mods (· = q) w5 (w5.setCell ⟨q, 10, none⟩ (.pointer (some ⟨p2, 0, none⟩))) := Mods.setCell (S := (· = q)) (Mods.refl (· = q) w5) ⟨q, 10, none⟩ (.inl rfl) _
  have Q6 : Blk (w5.setCell ⟨q, 10, none⟩ (.pointer (some ⟨p2, 0, none⟩))) q 72 (storeI g (some ⟨p1, 0, none⟩) (some ⟨p2, 0, none⟩) none) := Q5.setCell 10 (.pointer (some ⟨p2, 0, none⟩))
  have O6 := O5.step M6 (fun b e => .inr (by omega))
  have R6 := R5.keepq M6 Q5 hqS2
  have R6s := r2.keepq M6 Q5 hqS2
  have c10 := Q5.cell 10 (v := .pointer none) rfl
  have f10 := Q5.free 10
  have hm2 := m2.size
  have BB6 : Below B w (w5.setCell ⟨q, 10, none⟩ (.pointer (some ⟨p2, 0, none⟩))) := Mods.old (Below.refl B w) O6.md hB (fun b _ e => HS.out b e)
  have hm6 := M6.size
  obtain ⟨w6, hw6⟩ : ∃ w6, w6 = w5.setCell ⟨q, 10, none⟩ (.pointer (some ⟨p2, 0, none⟩)) := ⟨_, rfl⟩
  rw [← hw6] at M6 Q6 O6 R6 R6s BB6 hm6
  have hsz6 : w.heap.size ≤ w6.heap.size := O6.md.size
  have E6 := HE.out.below BB6
  have WO := Lib.hid (walOpenNew 9000 (by decide) R6.di (Nat.le_trans hB hsz6) R6.sge E6)
  have HK2 : Hid (∀ b, S2 b → S b ∨ w.heap.size + 2 ≤ b) := Lib.hid (fun b e => (k2 b e).elim (HK1.out b) (fun e => .inr (by omega)))
  have G6 := Lib.hid (And.intro Q6 (And.intro O6 (And.intro R6 (And.intro R6s (And.intro hw6 hqS2)))))
  clear SO2 r2 k2 Q4 O4 R4 hw4 hqS1 G4 Q5 O5 R5 M6 Q6 O6 R6 R6s hw6 E6 c9 f9 BB4 BB6 hqS2 m1 m2 HK1
  go_wp2_with fail
  rw [← G6.out.2.2.2.2.1]
  refine WO.out.mono ?_
  rintro e w7 ⟨p3, S3, F3, rfl, hLR, k3, kf3, m3⟩
  obtain ⟨Zl, Yl, SA, sc, RA, rc, hx⟩ := hLR
  obtain ⟨Q6, O6, R6, R6s, hw6, hqS2⟩ := G6.out
  have hq6 := Q6.lt
  have hqS3 : ¬ S3 q := fun e => (k3 _ e).elim hqS2 (fun e => by omega)
  have hqF3 : ¬ F3 q := fun e => by have := kf3 _ e; omega
  have Q7 := Q6.mods m3 hqS2
  have O7 := O6.step m3 HK2.out
  have R7 := R6.moved (Nat.le_trans hB hsz6) hx.lb.di k3 m3
  have R7s := R6s.moved (Nat.le_trans hB hsz6) hx.lb.di k3 m3
  have M8 : Mods (· = q) w7 (w7.setCell ⟨q, 11, none⟩ (.pointer (some ⟨p3, 0, none⟩))) := Mods.setCell (S := (· = q)) (Mods.refl (· = q) w7) ⟨q, 11, none⟩ (.inl rfl) _
  have Q8 : Blk (w7.setCell ⟨q, 11, none⟩ (.pointer (some ⟨p3, 0, none⟩))) q 72 (storeI g (some ⟨p1, 0, none⟩) (some ⟨p2, 0, none⟩) (some ⟨p3, 0, none⟩)) := Q7.setCell 11 (.pointer (some ⟨p3, 0, none⟩))
  have O8 := O7.step M8 (fun b e => .inr (by omega))
  have R8 := R7.keepq M8 Q7 hqS3
  have R8s := R7s.keepq M8 Q7 hqS3
  have hm3 := m3.size
  have L8 := hx.mods M8 (fun b hb e => hqF3 (by rw [← e]; exact hb)) (hx.lb.di.mods M8 (fun b _ hs e => hqS3 (by rw [← e]; exact hs))) (fun b hb => .inl hb) (Nat.le_trans (Nat.le_trans hB hsz6) hm3)
  have c11 := Q7.cell 11 (v := .pointer none) rfl
  have f11 := Q7.free 11
  have hm8 := M8.size
  obtain ⟨w8, hw8⟩ : ∃ w8, w8 = w7.setCell ⟨q, 11, none⟩ (.pointer (some ⟨p3, 0, none⟩)) := ⟨_, rfl⟩
  rw [← hw8] at Q8 O8 R8 R8s L8 hm8
  have HW8 := Lib.hid hw8.symm
  have hb9 : Below w8.heap.size w8 (w8.alloc (.cells #[.int .i64 0, .int .i64 0, .int .i64 0] 27)) := (Below.refl _ _).alloc (Nat.le_refl _) _
  have hrl8 := RV.lit w8 (ncells .i64 [0, 0, 0]) 27 (0, 0)
  rw [show w8.heap.size = w7.heap.size from by rw [hw8]; simp] at hrl8
  have FS := Lib.hid (storeFirst0 (some ⟨w7.heap.size, 0, none⟩) 3 _ hrl8)
  have D9 := R8.di.below hb9
  have NM := diskNamesC D9 (by decide) (fun p hp => by
    have e : p = (walName 0 1, []) := by simpa [dsk1, DSt.files] using hp
    subst e
    show (walName 0 1).length ≤ _
    rw [walName_01]; decide)
  rw [names1] at NM
  have NMH := Lib.hid NM
  have HB9 := Lib.hid hb9
  have HK3 : Hid (∀ b, S3 b → S b ∨ w.heap.size + 2 ≤ b) := Lib.hid (fun b e => (k3 b e).elim (HK2.out b) (fun e => .inr (by omega)))
  have HKF : Hid (∀ b, F3 b → w.heap.size + 2 ≤ b) := Lib.hid (fun b e => by have := kf3 b e; omega)
  have G8 := Lib.hid (And.intro Q8 (And.intro O8 (And.intro R8 (And.intro R8s (And.intro L8 (And.intro hqS3 hqF3))))))
  clear hrl8 WO hx k3 kf3 Q6 O6 R6 R6s hw6 hqS2 G6 Q7 O7 R7 R7s M8 Q8 O8 R8 R8s L8 hw8 c10 f10 D9 NM hb9 hqS3 hqF3 HK2 m3
  go_wp2_with fail
  rw [HW8.out]
  refine FS.out.mono ?_
  rintro e w9 ⟨rfl, rfl⟩
  go_wp2_with fail
  refine NMH.out.mono ?_
  rintro e w10 ⟨An, cn, rfl, on, b10⟩
  have CS := Lib.hid (containsS An cn [[119, 46, 48, 46, 49]] [116, 46, 120] w10 on.rv (by decide) false (by decide))
  obtain ⟨Q8, O8, R8, R8s, L8, hqS3, hqF3⟩ := G8.out
  have hb10 : Below w8.heap.size w8 w10 := belowTrans HB9.out b10
  have hsz8 : w.heap.size ≤ w8.heap.size := O8.md.size
  have O10 := O8.step (Mods.of_below (S := fun _ => False) hb10) (fun b e => e.elim)
  have hsz10 := O10.md.size
  have E10 := HE.out.below (Mods.old (Below.refl B w) O10.md hB (fun b _ e => HS.out b e))
  have Q10 := Q8.kept hb10
  have R10 := R8.below hb10
  have q9 := Q10.lt
  have LD := Lib.hid (storeLoad i t v l d V vc L lc Dd dc Q10 R10 (R8s.below hb10) (L8.below hb10) ⟨rfl, rfl, by decide⟩ ⟨rfl, rfl, by decide⟩ hqS3 hqF3 (Nat.le_trans hB hsz10) E10 (by omega) O10.rv O10.rl O10.rd
    (fun h0 k hk e => by have := (O10.vs h0 k hk).1; omega) (fun h0 k hk e => by have := (O10.ls h0 k hk).1; omega) (fun h0 k hk e => by have := (O10.ds h0 k hk).1; omega) (by omega) (by omega) (by omega) (by omega))
  have N10 := Lib.hid O10.n0
  have LB := Lib.hid (And.intro L8.lb.di.bnd (fun b hb => (L8.lb.bnd b hb).2))
  have G10 := Lib.hid (And.intro O10 (And.intro R10 (And.intro hqS3 hqF3)))
  have HQ10 := Lib.hid Q10
  have HS10 := Lib.hid hb10.size
  clear on b10 NMH hb10 O10 E10 Q10 R10 Q8 O8 R8 R8s L8 hqS3 hqF3 G8 HB9 FS c11 f11
  go_wp2_with (first
    | (go_at_call 29; refine CS.out.mono ?_; rintro e w11 ⟨rfl, h11⟩; rw [h11]; clear h11 w11)
    | (refine wpList_load_row rfl 36 (.tmp 3) rfl w.heap.size rfl 36 (shotC i t v l d V vc L lc Dd dc) (0, 0) _ N10.out Tryz.underlying36 rfl shot_size ?_))
  refine LD.out.mono ?_
  rintro e w12 ⟨A, ac, Bb, bc, C, cc, rfl, Q12, o1, o2, o3, m12⟩
  obtain ⟨O10, R10, hqS3, hqF3⟩ := G10.out
  have hq10 : q < w10.heap.size := q9
  have O12 := O10.step m12 (fun b e => e.elim (fun e => .inr (by omega)) (fun e => e.2.elim (HK3.out b) (fun e => .inr (HKF.out b e))))
  have hsz12 := m12.size
  have Q12h := Lib.hid Q12
  have rg : w12.rangeAt q 1 (stateC 0 0 i t v l d A ac Bb bc C cc).toList := Q12.range 1 _ (by
    intro j x hj
    match j, hj with
    | 0, hj => simpa using hj
    | 1, hj => simpa using hj
    | 2, hj => simpa using hj
    | 3, hj => simpa using hj
    | 4, hj => simpa using hj
    | 5, hj => simpa using hj
    | 6, hj => simpa using hj
    | 7, hj => simpa using hj
    | j + 8, hj => simp at hj)
  have RG := Lib.hid rg
  have CL := Lib.hid (stateClone 0 0 i t v l d A ac Bb bc C cc w12 o1.rv o2.rv o3.rb (by omega) (by omega) (by omega))
  have T12 := Lib.hid O12.t5
  have G12 := Lib.hid (And.intro O12 (And.intro Q12 (And.intro o1 (And.intro o2 (And.intro o3 (And.intro m12 (And.intro R10 (And.intro hqS3 hqF3))))))))
  clear O10 O12 R10 hqS3 hqF3 G10 Q12 o1 o2 o3 m12 rg LD N10 CS
  go_wp2_with (refine wpList_load_mid rfl 38 (.tmp 82) rfl q 1 rfl (stateC 0 0 i t v l d A ac Bb bc C cc).toList _ RG.out Tryz.underlying38 rfl state_size ?_)
  refine CL.out.mono ?_
  rintro e w13 ⟨A', ac', B', bc', C', cc', rfl, o1', o2', o3', b13⟩
  have T13 := Lib.hid (T12.out.kept b13)
  have B13 := Lib.hid b13
  clear CL o1' o2' o3' b13 RG T12 Q12h
  go_wp2_with (refine wpList_store_row rfl 38 (.tmp 5) (.tmp 84) rfl (w.heap.size + 1) (stateC 0 0 i t v l d A' ac' B' bc' C' cc') rfl rfl _ _ T13.out state_size rfl (by simp [Value.oneCell']) ?_)
  have Y := T13.out.setRow (stateC 0 0 i t v l d A' ac' B' bc' C' cc')
  have y0 := Y.cell 0 rfl
  have y1 := Y.cell 1 rfl
  have y2 := Y.cell 2 rfl
  have y3 := Y.cell 3 rfl
  have y4 := Y.cell 4 rfl
  have y5 := Y.cell 5 rfl
  have y6 := Y.cell 6 rfl
  have y7 := Y.cell 7 rfl
  refine bodyPost_ret (v := .tuple #[.pointer (some ⟨q, 0, none⟩), .agg (stateC 0 0 i t v l d A' ac' B' bc' C' cc'), .int .i64 0]) (by simp [results, Tryz.results8, go_sem, y0, y1, y2, y3, y4, y5, y6, y7]) rfl ?_
  obtain ⟨O12, Q12, o1, o2, o3, m12, R10, hqS3, hqF3⟩ := G12.out
  have hn1q : w.heap.size + 1 < w10.heap.size := by omega
  have M' : Mods (· = w.heap.size + 1) w12 (w13.setRow (w.heap.size + 1) (stateC 0 0 i t v l d A' ac' B' bc' C' cc')) := (Mods.of_below (S := (· = w.heap.size + 1)) B13.out).then ((Mods.refl (· = w.heap.size + 1) w13).setRow (w.heap.size + 1) (.inl rfl) _)
  refine ⟨q, p1, p2, p3, w10.heap.size, A, ac, Bb, bc, C, cc, A', ac', B', bc', C', cc', rfl, Q12.mods M' (by omega), o1.mods M' (fun k hk e => by have := (o1.blk_lt k hk).1; omega), o2.mods M' (fun k hk e => by have := (o2.blk_lt k hk).1; omega), o3.mods M' (fun k hk e => by have := (o3.blk_in k hk).1; omega), by omega, hq10, O12.md.trans M' (fun b e => .inr (by omega)), fun h0 => ?_⟩
  have R12 := R10.keepq (m12.mono (T := (· = q)) (fun b _ e => e.elim id (fun e => absurd h0 e.1))) HQ10.out hqS3
  have R13 := R12.keepT M' O12.t5 (by decide) (by decide) (by decide) (fun e => (HK3.out _ e).elim (fun e => by have := HD.out.bnd _ e; omega) (fun e => by omega))
  exact ⟨S3, _, _, _, _, R13, fun b e => (HK3.out b e).elim .inl (fun e => .inr (by omega)), hqS3, fun b e => Nat.lt_of_lt_of_le (LB.out.1 b e) HS10.out, R10.blk.lt, (R10.blk.ne HQ10.out (by decide)).symm⟩
end
end Go.Proofs.YtobdmlejabjmiaaGreatDoor


/- Contracts of a store: State, alive, did, SaveHard; of a nil one. -/
namespace Go.Proofs.YtobdmlejabjmiaaGreatDoor
open Go.RowKit
section
variable {B g q ph ps pl : Nat} {S : Nat → Prop} {w w' : World}
abbrev storeS (g ph ps pl : Nat) (ht : Nat) (hvt : Int) (i t : Nat) (v l : List Int) (d : List UInt8) (V : Option Addr) (vc : Nat) (L : Option Addr) (lc : Nat) (D : Option Addr) (dc : Nat) : Array Value :=
  #[.pointer (some ⟨g, 0, none⟩), .int .u64 (ht : Int), .int .i64 hvt, .int .u64 (i : Int), .int .u64 (t : Int), .slice V v.length vc, .slice L l.length lc, .slice D d.length dc, .slice none 0 0, .pointer (some ⟨ph, 0, none⟩), .pointer (some ⟨ps, 0, none⟩), .pointer (some ⟨pl, 0, none⟩), .bool false]
theorem range_state {T : TypeId} {ht : Nat} {hvt : Int} {i t : Nat} {v l : List Int} {d : List UInt8} {V L D : Option Addr} {vc lc dc : Nat} (h : Blk w q T (storeS g ph ps pl ht hvt i t v l d V vc L lc D dc)) : w.rangeAt q 1 (stateC ht hvt i t v l d V vc L lc D dc).toList := h.range 1 _ (by
    intro j x hj
    match j, hj with
    | 0, hj => simpa using hj
    | 1, hj => simpa using hj
    | 2, hj => simpa using hj
    | 3, hj => simpa using hj
    | 4, hj => simpa using hj
    | 5, hj => simpa using hj
    | 6, hj => simpa using hj
    | 7, hj => simpa using hj
    | j + 8, hj => simp at hj)
set_option maxRecDepth 20000 in
set_option maxHeartbeats 1500000 in
theorem storeState (ht : Nat) (hvt : Int) (i t : Nat) (v l : List Int) (d : List UInt8) (V : Option Addr) (vc : Nat) (L : Option Addr) (lc : Nat) (D : Option Addr) (dc : Nat)
    (hq : Blk w q 72 (storeS g ph ps pl ht hvt i t v l d V vc L lc D dc)) (hv : RV w V (ncells .i64 v)) (hl : RV w L (ncells .i64 l)) (hd : RB w D d) (hn : v.length ≤ 1000000) (hm : l.length ≤ 1000000) (hdl : d.length ≤ 1000000) :
    Calls Tryz.prog 16 #[.pointer (some ⟨q, 0, none⟩)] w fun e w' => ∃ A ac B bc C cc, e = .returned (.agg (stateC ht hvt i t v l d A ac B bc C cc)) ∧ OV w' w.heap.size 3 A ac (ncells .i64 v) ∧ OV w' w.heap.size 3 B bc (ncells .i64 l) ∧ OB w' w.heap.size C cc d ∧ Below w.heap.size w w' := by
  have hal : Below w.heap.size w (w.alloc (.cells state0 38)) := (Below.refl _ _).alloc (Nat.le_refl _) _
  have Z := Lib.hid (Blk.new w state0 38)
  have RG := Lib.hid (range_state (hq.kept hal))
  have CL := Lib.hid (stateClone ht hvt i t v l d V vc L lc D dc _ (hv.below hal) (hl.below hal) (hd.below hal) hn hm hdl)
  have HAL := Lib.hid hal
  clear hal hq hv hl hd
  unfold state0 at *
  go_enter Tryz.func16, Tryz.ntmps16
  go_wp2_with (refine wpList_load_mid rfl 38 (.tmp 8) rfl q 1 rfl (stateC ht hvt i t v l d V vc L lc D dc).toList _ RG.out Tryz.underlying38 rfl state_size ?_)
  refine CL.out.mono ?_
  rintro e w1 ⟨A, ac, Bb, bc, C, cc, rfl, o1, o2, o3, b1⟩
  have hws : (w.alloc (.cells #[.int .u64 0, .int .i64 0, .int .u64 0, .int .u64 0, .slice none 0 0, .slice none 0 0, .slice none 0 0, .slice none 0 0] 38)).heap.size = w.heap.size + 1 := by simp
  rw [hws] at o1 o2 o3
  have Y := Lib.hid (Z.out.kept b1)
  have HB := Lib.hid (belowTrans HAL.out b1)
  have HO := Lib.hid (And.intro o1 (And.intro o2 o3))
  clear b1 o1 o2 o3 CL Z HAL RG hws
  go_wp2_with (refine wpList_store_row rfl 38 (.tmp 2) (.tmp 10) rfl w.heap.size (stateC ht hvt i t v l d A ac Bb bc C cc) rfl rfl _ _ Y.out state_size rfl (by simp [Value.oneCell']) ?_)
  have Y2 := Y.out.setRow (stateC ht hvt i t v l d A ac Bb bc C cc)
  refine bodyPost_ret (v := .agg (stateC ht hvt i t v l d A ac Bb bc C cc)) (results_cell_row rfl _ _ w.heap.size 38 (stateC ht hvt i t v l d A ac Bb bc C cc) (0, 0) _ rfl Y2 Tryz.underlying38 rfl state_size) rfl ?_
  obtain ⟨o1, o2, o3⟩ := HO.out
  have P1 := ownsRow_setRow (k := w.heap.size) o1 (fun e => by have := (o1.own_lt _ e).1; omega) (stateC ht hvt i t v l d A ac Bb bc C cc)
  have P2 := ownsRow_setRow (k := w.heap.size) o2 (fun e => by have := (o2.own_lt _ e).1; omega) (stateC ht hvt i t v l d A ac Bb bc C cc)
  have P3 := o3.setRow (k := w.heap.size) (fun e => by have := (o3.own_lt w.heap.size (by rw [own_blk]; exact e)).1; omega) (stateC ht hvt i t v l d A ac Bb bc C cc)
  exact ⟨A, ac, Bb, bc, C, cc, rfl, OV.base_le P1 (by omega), OV.base_le P2 (by omega), P3.base_le (by omega), below_setRow HB.out (Nat.le_refl _) _⟩
set_option maxHeartbeats 1500000 in
theorem storeState_nil : Calls Tryz.prog 16 #[.pointer none] w fun e w' => e = .returned (.agg state0) ∧ Below w.heap.size w w' := by
  have Z := Lib.hid (Blk.new w state0 38)
  unfold state0 at *
  go_enter Tryz.func16, Tryz.ntmps16
  go_wp2_with (refine wpList_store_row rfl 38 (.tmp 2) (.tmp 5) rfl w.heap.size state0 rfl rfl _ _ Z.out state_size rfl (by simp [Value.oneCell']) ?_)
  have Y2 := Z.out.setRow state0
  refine bodyPost_ret (v := .agg state0) (results_cell_row rfl _ _ w.heap.size 38 state0 (0, 0) _ rfl Y2 Tryz.underlying38 rfl state_size) rfl ?_
  exact ⟨rfl, below_setRow ((Below.refl _ _).alloc (Nat.le_refl _) _) (Nat.le_refl _) _⟩
theorem storeAlive_nil : Calls Tryz.prog 35 #[.pointer none] w fun e w' => e = .returned (.int .i64 1) ∧ w = w' := by
  go_enter Tryz.func35, Tryz.ntmps35
  go_wp2_with fail
  go_ret
  exact ⟨rfl, rfl⟩
theorem storeAlive {cs : Array Value} (hq : Blk w q 72 cs) (h : cs[12]? = some (.bool false)) : Calls Tryz.prog 35 #[.pointer (some ⟨q, 0, none⟩)] w fun e w' => e = .returned (.int .i64 0) ∧ w = w' := by
  have c12 := hq.cell 12 h
  clear hq h
  go_enter Tryz.func35, Tryz.ntmps35
  go_wp2_with fail
  go_ret
  exact ⟨rfl, rfl⟩
theorem storeDid {cs : Array Value} (hq : Blk w q 72 cs) (h : cs[12]? = some (.bool false)) : Calls Tryz.prog 37 #[.pointer (some ⟨q, 0, none⟩), .int .i64 0] w fun e w' => e = .returned (.int .i64 0) ∧ w' = w.setCell ⟨q, 12, none⟩ (.bool false) := by
  have c12 := hq.cell 12 h
  have f12 := hq.free 12
  clear hq h
  go_enter Tryz.func37, Tryz.ntmps37
  go_wp2_with fail
  go_ret
  exact ⟨rfl, rfl⟩
set_option maxHeartbeats 1500000 in
theorem saveHard_nil (a b : Value) (h1 : a.oneCell' = true) (h2 : b.oneCell' = true) : Calls Tryz.prog 14 #[.pointer none, .agg #[a, b]] w fun e w' => e = .returned (.int .i64 1) ∧ Below w.heap.size w w' := by
  have AL := Lib.hid (storeAlive_nil (w := w.alloc (.cells #[a, b] 25)))
  go_enter Tryz.func14, Tryz.ntmps14
  go_wp2_with (go_at_call 35; refine AL.out.mono ?_)
  rintro e w1 ⟨rfl, rfl⟩
  go_wp2_with fail
  go_ret
  exact ⟨rfl, (Below.refl _ _).alloc (Nat.le_refl _) _⟩
set_option maxRecDepth 20000 in
set_option maxHeartbeats 1500000 in
theorem saveLog_nil (n : Int) : Calls Tryz.prog 15 #[.pointer none, .int .u64 n, .slice none 0 0] w fun e w' => e = .returned (.int .i64 1) ∧ Below w.heap.size w w' := by
  have AL := Lib.hid (storeAlive_nil (w := w))
  go_enter Tryz.func15, Tryz.ntmps15
  go_wp2_with (go_at_call 35; refine AL.out.mono ?_)
  rintro e w1 ⟨rfl, rfl⟩
  go_wp2_with fail
  go_ret
  exact ⟨rfl, Below.refl _ _⟩
set_option maxRecDepth 20000 in
set_option maxHeartbeats 1500000 in
theorem saveShot_nil (i t : Nat) (v l : List Int) (d : List UInt8) (V : Option Addr) (vc : Nat) (L : Option Addr) (lc : Nat) (D : Option Addr) (dc : Nat) : Calls Tryz.prog 22 #[.pointer none, .agg (shotC i t v l d V vc L lc D dc)] w fun e w' => e = .returned (.int .i64 1) ∧ Below w.heap.size w w' := by
  have AL := Lib.hid (storeAlive_nil (w := w.alloc (.cells (shotC i t v l d V vc L lc D dc) 36)))
  unfold shotC at *
  go_enter Tryz.func22, Tryz.ntmps22
  go_wp2_with (go_at_call 35; refine AL.out.mono ?_)
  rintro e w1 ⟨rfl, rfl⟩
  go_wp2_with fail
  go_ret
  exact ⟨rfl, (Below.refl _ _).alloc (Nat.le_refl _) _⟩
set_option maxHeartbeats 1500000 in
theorem lawFirst : Calls Tryz.prog 9 #[] w fun e w' => ∃ V, e = .returned (.agg (shotC 0 0 [1, 2] [] [] (some V) 2 none 0 none 0)) ∧ OV w' w.heap.size 3 (some V) 2 (ncells .i64 [1, 2]) ∧ Below w.heap.size w w' := by
  have hal : Below w.heap.size w (w.alloc (.cells shot0 36)) := (Below.refl _ _).alloc (Nat.le_refl _) _
  have hal2 : Below w.heap.size w ((w.alloc (.cells shot0 36)).alloc (.cells #[.int .i64 1, .int .i64 2] 3)) := hal.alloc hal.size _
  have hb : Below (w.alloc (.cells shot0 36)).heap.size (w.alloc (.cells shot0 36)) ((w.alloc (.cells shot0 36)).alloc (.cells #[.int .i64 1, .int .i64 2] 3)) := (Below.refl _ _).alloc (Nat.le_refl _) _
  have Z := Lib.hid ((Blk.new w shot0 36).kept hb)
  have hws : (w.alloc (.cells shot0 36)).heap.size = w.heap.size + 1 := by simp
  have R : OV ((w.alloc (.cells shot0 36)).alloc (.cells #[.int .i64 1, .int .i64 2] 3)) (w.heap.size + 1) 3 (some ⟨w.heap.size + 1, 0, none⟩) 2 (ncells .i64 [1, 2]) := by
    have := World.ownsRow_lit (base := w.heap.size + 1) (e := 3) (size := 1) (w.alloc (.cells shot0 36)) #[.int .i64 1, .int .i64 2] 2 (by rw [hws]; exact Nat.le_refl _) (by unfold maxLen; omega) rfl
    rw [hws] at this
    exact this
  have HR := Lib.hid R
  have HB := Lib.hid hal2
  clear R hal hal2 hb hws
  unfold shot0 at *
  go_enter Tryz.func9, Tryz.ntmps9
  go_wp2_with (refine wpList_store_row rfl 36 (.tmp 0) (.tmp 3) rfl w.heap.size #[.int .u64 0, .int .u64 0, .slice (some ⟨w.heap.size + 1, 0, none⟩) 2 2, .slice none 0 0, .slice none 0 0] rfl rfl _ _ Z.out shot_size rfl (by simp [Value.oneCell']) ?_)
  have Y2 := Z.out.setRow #[.int .u64 0, .int .u64 0, .slice (some ⟨w.heap.size + 1, 0, none⟩) 2 2, .slice none 0 0, .slice none 0 0]
  refine bodyPost_ret (v := .agg #[.int .u64 0, .int .u64 0, .slice (some ⟨w.heap.size + 1, 0, none⟩) 2 2, .slice none 0 0, .slice none 0 0]) (results_cell_row rfl _ _ w.heap.size 36 #[.int .u64 0, .int .u64 0, .slice (some ⟨w.heap.size + 1, 0, none⟩) 2 2, .slice none 0 0, .slice none 0 0] (0, 0) _ rfl Y2 Tryz.underlying36 rfl shot_size) rfl ?_
  have P1 := ownsRow_setRow (k := w.heap.size) HR.out (fun e => by have := (HR.out.own_lt _ e).1; omega) #[.int .u64 0, .int .u64 0, .slice (some ⟨w.heap.size + 1, 0, none⟩) 2 2, .slice none 0 0, .slice none 0 0]
  exact ⟨⟨w.heap.size + 1, 0, none⟩, rfl, OV.base_le P1 (by omega), below_setRow HB.out (Nat.le_refl _) _⟩
theorem hardFile : fileN nmHard 1 = [104, 97, 114, 100, 46, 49] := by
  have h1 : Lib.decDigits 1 = [49] := by rw [Lib.decDigits]; simp
  unfold fileN nmHard
  rw [h1]; rfl
set_option maxRecDepth 20000 in
set_option maxHeartbeats 1500000 in
/-- SaveHard of a store on a new disk. -/
theorem storeSaveHard {B p cv co nb : Nat} {V' O' : Option Addr} (t5 : Nat) (v5 : Int) (l : List Int) (V : Option Addr) (vc : Nat) (L : Option Addr) (lc : Nat) (D : Option Addr) (dc : Nat)
    (hq : Blk w q 72 (storeS g p ps pl 0 0 0 0 l [] [] V vc L lc D dc)) (hs : SR B S w p g (openS nmHard Sc.zero) (dsk1 9000) V' cv O' co) (hB : B ≤ w.heap.size) (hE : SEnv B w) (hqS : ¬ S q) (hqp : q ≠ p) (hr : OV w nb 3 V vc (ncells .i64 l)) (hSn : ∀ b, S b → b < nb) (hpn : p < nb) (hqn : q < nb) (ht : t5 ≤ 18446744073709551615) (hv5 : hardB v5 = true) :
    Calls Tryz.prog 14 #[.pointer (some ⟨q, 0, none⟩), .agg #[.int .u64 (t5 : Int), .int .i64 v5]] w fun e w' => e = .returned (.int .i64 0) ∧ Blk w' q 72 (storeS g p ps pl t5 v5 0 0 l [] [] V vc L lc D dc) ∧ OV w' nb 3 V vc (ncells .i64 l) ∧ Mods (fun b => S b ∨ b = p ∨ b = q) w w' := by
  have hal : Below w.heap.size w (w.alloc (.cells #[.int .u64 (t5 : Int), .int .i64 v5] 25)) := (Below.refl _ _).alloc (Nat.le_refl _) _
  have Z := Lib.hid (Blk.new w #[.int .u64 (t5 : Int), .int .i64 v5] 25)
  have Q0 := hq.kept hal
  have AL := Lib.hid (storeAlive Q0 rfl)
  have MH := Lib.hid (msgHard t5 v5 (w.alloc (.cells #[.int .u64 (t5 : Int), .int .i64 v5] 25)) ht true hv5)
  have HQ := Lib.hid Q0
  have HR := Lib.hid (hr.below hal)
  have HSR := Lib.hid (hs.below hal)
  have HE := Lib.hid (hE.below (hal.mono hB))
  have HAL := Lib.hid hal
  have HN := Lib.hid (And.intro hqS (And.intro hSn hs.di.bnd))
  have hwq := hq.lt
  have hwp := hs.blk.lt
  clear hal Q0 hq hs hr hE hqS hSn
  go_enter Tryz.func14, Tryz.ntmps14
  go_wp2_with (go_at_call 35; refine AL.out.mono ?_)
  rintro e w1 ⟨rfl, rfl⟩
  go_wp2_with fail
  refine MH.out.mono ?_
  rintro e w2 ⟨A, n, c, k, rfl, b2, p1, p2⟩
  obtain ⟨rfl, rfl, ho⟩ := p2 rfl
  have hlen := hardBytes_len t5 v5
  have hsz2 := (belowTrans HAL.out b2).size
  have hsz1 := HAL.out.size
  have S2 := HSR.out.below b2
  have Q2 := HQ.out.kept b2
  have hbl := ho.blk_in
  have SV := Lib.hid (srSave1 S2 (Nat.le_trans hB hsz2) (HE.out.below (b2.mono (Nat.le_trans hB hsz1))) base_hard rest1 (hardBytes t5 v5) A c ho.rb (fun _ b hb => by
    have h1 := (hbl b hb).1
    exact ⟨fun e => by have := HN.out.2.2 b e; omega, by omega⟩) (by omega) (by rw [hardFile]; show fget [(walName 0 1, [])] _ = none; rw [walName_01]; decide) (by decide) (by
      show (fsize [(walName 0 1, [])] : Int) + (hardBytes t5 v5).length + 8 ≤ 9000
      have : fsize [(walName 0 1, [])] = 0 := rfl
      rw [this]; omega))
  have G2 := Lib.hid (And.intro Q2 (And.intro (HR.out.below b2) (belowTrans HAL.out b2)))
  have Z2 := Lib.hid (Z.out.kept b2)
  have c9 := Q2.cell 9 (v := .pointer (some ⟨p, 0, none⟩)) rfl
  clear MH b2 p1 p2 ho hbl S2 Q2 HQ HR HSR Z AL
  go_wp2_with fail
  refine SV.out.mono ?_
  rintro e w3 ⟨rfl, S3, V3, cv3, O3, co3, r3, k3, m3, _⟩
  obtain ⟨Q2, R2, hb2⟩ := G2.out
  have hno : ∀ b, nb ≤ b → ¬ (S b ∨ b = p) := fun b hb e => e.elim (fun e => by have := HN.out.2.1 b e; omega) (fun e => by omega)
  have Q3 := Q2.mods m3 (fun e => e.elim HN.out.1 hqp)
  have R3 := R2.mods m3 (fun k hk => hno k (R2.blk_lt k hk).1)
  have Z3 := Lib.hid (Z2.out.mods m3 (fun e => e.elim (fun e => by have := HN.out.2.2 _ e; omega) (fun e => by omega)))
  have DD := Lib.hid (storeDid Q3 rfl)
  have G3 := Lib.hid (And.intro Q3 (And.intro R3 ((Mods.of_below (S := fun b => S b ∨ b = p) hb2).then m3)))
  clear SV Q2 R2 hb2 G2 Q3 R3 r3 k3 m3 Z2 c9
  go_wp2_with fail
  refine DD.out.mono ?_
  rintro e w4 ⟨rfl, hw4⟩
  obtain ⟨Q3, R3, M3⟩ := G3.out
  have Q4 : Blk w4 q 72 (storeS g p ps pl 0 0 0 0 l [] [] V vc L lc D dc) := by rw [hw4]; exact Q3.setCell 12 (.bool false)
  have R4 : OV w4 nb 3 V vc (ncells .i64 l) := by rw [hw4]; exact ov_setCell R3 (a := ⟨q, 12, none⟩) hqn _
  have M4 : Mods (fun b => S b ∨ b = p ∨ b = q) w w4 := by
    rw [hw4]
    exact (M3.mono (T := fun b => S b ∨ b = p ∨ b = q) (fun b _ e => e.elim .inl (fun e => .inr (.inl e)))).setCell ⟨q, 12, none⟩ (.inl (.inr (.inr rfl))) _
  have Z4 : Blk w4 w.heap.size 25 #[.int .u64 (t5 : Int), .int .i64 v5] := by rw [hw4]; exact Z3.out.setCell_other (a := ⟨q, 12, none⟩) _ (by simp only; omega)
  have z0 := Z4.cell 0 (v := .int .u64 (t5 : Int)) rfl
  have z1 := Z4.cell 1 (v := .int .i64 v5) rfl
  have TH := Lib.hid (there_blk Q4 1 2 (by simp))
  have Q5 : Hid (Blk (w4.setCells q 1 [.int .u64 (t5 : Int), .int .i64 v5]) q 72 (storeS g p ps pl t5 v5 0 0 l [] [] V vc L lc D dc)) := Lib.hid (blk_setCells2 Q4 1 (.int .u64 (t5 : Int)) (.int .i64 v5))
  have R5 := Lib.hid (ov_setCells2 R4 (k := q) hqn 1 (.int .u64 (t5 : Int)) (.int .i64 v5))
  have M5 : Hid (Mods (fun b => S b ∨ b = p ∨ b = q) w (w4.setCells q 1 [.int .u64 (t5 : Int), .int .i64 v5])) := Lib.hid ((M4.setCell ⟨q, 1, none⟩ (.inl (.inr (.inr rfl))) (.int .u64 (t5 : Int))).setCell ⟨q, 1 + 1, none⟩ (.inl (.inr (.inr rfl))) (.int .i64 v5))
  clear DD hw4 Q3 R3 M3 G3 Q4 R4 M4 Z4 Z3
  go_wp2_with (refine wpList_store_mid rfl 25 (.tmp 35) (.tmp 32) rfl q 1 #[.int .u64 (t5 : Int), .int .i64 v5] rfl rfl TH.out hard_size (by simp [Value.oneCell']) ?_; simp only [List.toList_toArray]; generalize w4.setCells q 1 [.int .u64 (t5 : Int), .int .i64 v5] = w5 at *)
  go_ret
  exact ⟨rfl, Q5.out, R5.out, M5.out⟩
end
end Go.Proofs.YtobdmlejabjmiaaGreatDoor


/- Layer 16: what the law's answers answers. -/
namespace Go.Proofs.YtobdmlejabjmiaaGreatDoor
open Go.RowKit
section
variable {w w' : World}
theorem field_term (a b : Value) (w : World) : (Instr.field 25 (.agg #[a, b]) 0).run Tryz.prog w = .ok a w := by kernel_rfl
set_option maxRecDepth 20000 in
set_option maxHeartbeats 1500000 in
theorem lawAnswersS (w : World) (hE : SEnv w.heap.size w) : Calls Tryz.prog 11 #[] w fun e w' => e = .returned (.bool true) ∧ Below w.heap.size w w' := by
  have HE := Lib.hid hE
  have ND := Lib.hid (diskNew 9000 w (by decide) (by decide))
  clear hE
  go_enter Tryz.func11, Tryz.ntmps11
  go_wp2_with (go_at_call 7; refine ND.out.mono ?_)
  first | rintro e w1 ⟨g, rfl, hd, b1⟩ | rintro e w1 g rfl hd b1
  have HB1 := Lib.hid b1
  have HD := Lib.hid hd
  clear b1 hd ND
  go_wp2_with fail
  refine lawFirst.mono ?_
  rintro e w2 ⟨V, rfl, ho, b2⟩
  have hb2 := belowTrans HB1.out b2
  have hsz1 := HB1.out.size
  have OP := Lib.hid (storeOpenYes (B := w.heap.size) (g := g) 0 0 [1, 2] [] [] (some V) 2 none 0 none 0 (HD.out.below b2) hb2.size (fun b e => e.1) (HE.out.below hb2) ho.rv RV.nil RB.nil
    (fun _ k hk e => by have h1 := (ho.blk_lt k hk).1; have h2 := e.2; omega) (fun h0 => by cases h0) (fun h0 => by cases h0) (by decide))
  have HB2 := Lib.hid hb2
  have HNS : Hid (∀ b, News w w1 b → w.heap.size ≤ b ∧ b < w1.heap.size) := Lib.hid (fun b e => e)
  clear ho b2 hb2 HD
  go_wp2_with fail
  refine OP.out.mono ?_
  rintro e w3 ⟨q, ph, ps, pl, nb, A, ac, Bb, bc, C, cc, A', ac', B', bc', C', cc', rfl, hq, o1, o2, o3, hqw, hqn, m3, hy⟩
  obtain ⟨S3, V3, cv3, O3, co3, r3, k3, hqS, hSn, hpn, hqp⟩ := hy rfl
  have hb3 : Below w.heap.size w w3 := Mods.old HB2.out m3 HB2.out.size (fun i _ e => (HNS.out i e).1)
  have hb4 : Below w3.heap.size w3 (w3.alloc (.cells state0 38)) := (Below.refl _ _).alloc (Nat.le_refl _) _
  have T4 := Lib.hid (Blk.new w3 state0 38)
  have hB4 := below_setRow (g := w3.heap.size) (hb3.trans (hb4.mono hb3.size)) hb3.size (stateC 0 0 0 0 [1, 2] [] [] A' ac' B' bc' C' cc')
  have hB43 := below_setRow (g := w3.heap.size) hb4 (Nat.le_refl _) (stateC 0 0 0 0 [1, 2] [] [] A' ac' B' bc' C' cc')
  obtain ⟨w4, hw4⟩ : ∃ w4, w4 = (w3.alloc (.cells state0 38)).setRow w3.heap.size (stateC 0 0 0 0 [1, 2] [] [] A' ac' B' bc' C' cc') := ⟨_, rfl⟩
  rw [← hw4] at hB4 hB43
  have HW4 := Lib.hid hw4.symm
  have o1' := o1.below hB43
  have r4 := r3.below hB43
  have SH := Lib.hid (storeSaveHard (nb := nb) 5 2 [1, 2] A ac Bb bc C cc (hq.kept hB43) r4 hB4.size (HE.out.below hB4) hqS hqp o1' hSn hpn hqn (by decide) (by decide))
  have hsg : ∀ b, S3 b → w.heap.size ≤ b := r3.sge
  have hpg := r3.ge
  have G4 := Lib.hid (And.intro hB4 (And.intro hsg hpg))
  have HR := Lib.hid (And.intro (o2.below hB43) (And.intro (o3.below hB43) (And.intro r4.di.bnd hSn)))
  have hqw' : w.heap.size ≤ q := by have := HB2.out.size; omega
  clear OP hq o1 o2 o3 m3 hy r3 k3 hb3 hb4 hB4 hB43 hw4 o1' r4 hsg HB1 HNS
  go_wp2_with (first
    | (refine wpList_store_row rfl 38 (.tmp 4) (.tmp 16) rfl w3.heap.size (stateC 0 0 0 0 [1, 2] [] [] A' ac' B' bc' C' cc') rfl rfl _ _ T4.out state_size rfl (by simp [Value.oneCell']) ?_; rw [HW4.out])
    | (go_at_call 14; refine SH.out.mono ?_))
  rintro e w5 ⟨rfl, hq5, o5, m5⟩
  have HB5 := Lib.hid (Mods.old G4.out.1 m5 G4.out.1.size (fun i _ e => e.elim (G4.out.2.1 i) (fun e => e.elim (fun e => by rw [e]; exact G4.out.2.2) (fun e => by rw [e]; exact hqw'))))
  have ST := Lib.hid (storeState 5 2 0 0 [1, 2] [] [] A ac Bb bc C cc hq5 o5.rv RV.nil RB.nil (by decide) (by decide) (by decide))
  clear SH hq5 o5 m5 G4 HR
  go_wp2_with (go_at_call 16; refine ST.out.mono ?_)
  rintro e w6 ⟨A6, ac6, B6, bc6, C6, cc6, rfl, _, _, _, b6⟩
  have HB6 := Lib.hid (HB5.out.trans (b6.mono HB5.out.size))
  have f1 := field_hard (.int .u64 5) (.int .i64 2) (.int .u64 0) (.int .u64 0) (.slice A6 2 ac6) (.slice B6 0 bc6) (.slice C6 0 cc6) (.slice none 0 0) w6
  have f2 := field_term (.int .u64 5) (.int .i64 2) w6
  clear b6 ST HB5
  unfold stateC
  go_wp2_with fail
  go_ret
  exact ⟨rfl, HB6.out⟩
end
end Go.Proofs.YtobdmlejabjmiaaGreatDoor

