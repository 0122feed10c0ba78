/- Put together of: WalRs, PutBytes, StoNum. -/
import Derived.Test.YtobdmlejabjmiaaGreatDoorZa21
import Derived.Test.YtobdmlejabjmiaaGreatDoorZa19
/- Package wal's Reset. -/
namespace Go.Proofs.YtobdmlejabjmiaaGreatDoor
open Go.RowKit

section
variable {B p g sc rc : Nat} {S F F' T : Nat → Prop} {w w' wr : World} {l l' : Lg} {D D' : DSt} {Z Z' Z1 Z2 : List (Sg × Pl)} {Y Y' : List (List UInt8 × Option Addr × Nat)} {SA RA SA' RA' : Option Addr} {s s' : Sg} {z : Pl} {sc' rc' n : Nat}
/-- A log that holds one segment alone, and no record, in rows of its own. -/
theorem LX.only {g8 c8 : Nat} (h : LX B S F w p g l D Z Y SA sc RA rc) (hs : SgAt w B s z) (ho : OV w B TP (some ⟨g8, 0, none⟩) c8 [ptrV (s, z)]) (hF : F g8 ∧ F z.q ∧ F z.m) (next : Nat) :
    LX B S F (((w.setCell ⟨p, 2, none⟩ (.slice (some ⟨g8, 0, none⟩) 1 c8)).setCell ⟨p, 3, none⟩ (.slice none 0 0)).setCell ⟨p, 4, none⟩ (.int .u64 (next : Int))) p g { l with segs := [s], recs := [], first := next } D [(s, z)] [] (some ⟨g8, 0, none⟩) c8 none 0 := by
  have hl : LB B S F w g D [(s, z)] [] (some ⟨g8, 0, none⟩) c8 none 0 :=
    { di := h.lb.di
      sv := ho
      rv := OV.nil _ _ _
      sg := fun y hy => by rw [List.mem_singleton.1 hy]; exact hs
      rc := fun y hy => by cases hy
      fs := fun b e => by
        have e2 : g8 = b := by simpa using e
        rw [← e2]; exact hF.1
      fr := fun b e => by cases e
      fq := fun y hy => by rw [List.mem_singleton.1 hy]; exact hF.2
      fy := fun y hy => by cases hy
      yb := fun y hy => by cases hy
      dis := h.lb.dis
      bnd := h.lb.bnd
      sge := h.lb.sge
      qn := by simp
      mn := by simp }
  have m1 : Mods (· = p) w (w.setCell ⟨p, 2, none⟩ (.slice (some ⟨g8, 0, none⟩) 1 c8)) := (Mods.refl (· = p) w).setCell ⟨p, _, none⟩ (.inl rfl) _
  have m2 := m1.setCell ⟨p, 3, none⟩ (.inl rfl) (.slice none 0 0)
  have m3 := m2.setCell ⟨p, 4, none⟩ (.inl rfl) (.int .u64 (next : Int))
  refine ⟨?_, h.fp, rfl, rfl, hl.setP h.blk h.ps m3⟩
  have h1 := ((h.blk.setCell 2 (.slice (some ⟨g8, 0, none⟩) 1 c8)).setCell 3 (.slice none 0 0)).setCell 4 (.int .u64 (next : Int))
  have e : (((logV g l SA sc RA rc).setIfInBounds 2 (.slice (some ⟨g8, 0, none⟩) 1 c8)).setIfInBounds 3 (.slice none 0 0)).setIfInBounds 4 (.int .u64 (next : Int)) = logV g { l with segs := [s], recs := [], first := next } (some ⟨g8, 0, none⟩) c8 none 0 := by
    simp [logV]
  rw [e] at h1
  exact h1
set_option maxRecDepth 20000 in
set_option maxHeartbeats 8000000 in
theorem walReset (h : LX B S F w p g l D Z Y SA sc RA rc) (hB : B ≤ w.heap.size) (hE : SEnv B w) (next : Nat) (hnx : next ≤ 9223372036854775807) (hera : l.era ≤ 1000000000000) (hnm : ∀ s ∈ l.segs, s.name.length ≤ 1000) (hsl : l.segs.length ≤ 100000) (hcnt : D.cnt + l.segs.length ≤ 500000) :
    Calls Tryz.prog 50 #[.pointer (some ⟨p, 0, none⟩), .int .u64 (next : Int)] w (LDone B S F w p g (.int .i64 (resetW l D next).1) (resetW l D next).2.1 (resetW l D next).2.2) := by
  have AL := Lib.hid (walAlive h.blk l.down rfl)
  have DONE : ∀ (e : Int) (v : World), Below w.heap.size w v → LDone B S F w p g (.int .i64 e) l D (.returned (.int .i64 e)) v := fun e v hv => ⟨rfl, S, F, ⟨_, _, _, _, _, _, h.below hv⟩, fun b hb => .inl hb, fun b hb => .inl hb, Mods.of_below hv⟩
  cases hd : l.down with
  | true =>
    rw [hd, if_pos rfl] at AL
    have e : resetW l D next = (11, l, D) := by unfold resetW; rw [if_pos hd]
    rw [e]
    have HF := Lib.hid (DONE 11 w (Below.refl _ _))
    clear h hcnt hd e hE hnm DONE
    go_enter Tryz.func50, Tryz.ntmps50
    go_wp2_with (go_at_call 92; refine AL.out.mono ?_)
    first | rintro e w1 rfl rfl | rintro e w1 ⟨rfl, rfl⟩
    clear AL
    go_wp2_with fail
    go_ret
    exact HF.out
  | false =>
    rw [hd, if_neg (by simp)] at AL
    have HD := Lib.hid hd
    by_cases h0 : next = 0
    · have e : resetW l D next = (1, l, D) := by unfold resetW; rw [if_neg (by rw [hd]; simp), if_pos h0]
      rw [e]
      have hI : ((next : Int) == 0) = true := by rw [beq_iff_eq]; omega
      have HF := Lib.hid (DONE 1 w (Below.refl _ _))
      clear h hcnt hd e hE hnm DONE h0
      go_enter Tryz.func50, Tryz.ntmps50
      go_wp2_with (go_at_call 92; refine AL.out.mono ?_; first | rintro e w1 rfl rfl | rintro e w1 ⟨rfl, rfl⟩)
      go_ret
      exact HF.out
    · have hI : ((next : Int) == 0) = false := by rw [beq_eq_false_iff_ne]; omega
      obtain ⟨era, hera2⟩ : ∃ era, era = l.era + 1 := ⟨_, rfl⟩
      obtain ⟨nm, hnm2⟩ : ∃ nm, nm = walName era next := ⟨_, rfl⟩
      obtain ⟨q1, hq1⟩ : ∃ q1, q1 = putW D nm 0 [] := ⟨_, rfl⟩
      obtain ⟨q2, hq2⟩ : ∃ q2, q2 = syncW { l with era := era } q1.2 := ⟨_, rfl⟩
      obtain ⟨r, hr⟩ : ∃ r, r = resetW l D next := ⟨_, rfl⟩
      have hnml : nm.length ≤ 43 := by rw [hnm2]; exact walName_len (by omega) (by omega)
      have hr1 : r = if q1.1 ≠ 0 then (q1.1, l.fell q1.1, q1.2) else if q2.1 ≠ 0 then (q2.1, l.fell q2.1, q2.2.2) else removeW (l.segs.map Sg.name) { l with era := era, segs := [⟨nm, next, [0]⟩], recs := [], first := next } q2.2.2 := by
        have e1 : syncW l q1.2 = (q2.1, l.fell q2.1, q2.2.2) := by
          rw [hq2]; unfold syncW
          simp only
          rw [if_neg (by rw [hd]; simp), if_neg (by rw [hd]; simp)]
        rw [hr]
        unfold resetW
        rw [if_neg (by rw [hd]; simp), if_neg h0, ← hera2, ← hnm2, ← hq1]
        split
        · rfl
        · rw [e1]
          split
          · rfl
          · rename_i h1 h2
            have h3 : q2.1 = 0 := Classical.not_not.1 h2
            simp only [h3, fell_ok hd]
      rw [← hr]
      have HR := Lib.hid hr1
      have HQ := Lib.hid (And.intro hq1 hq2)
      have HNM2 := Lib.hid hnm2
      have HNM := Lib.hid hnm
      have HE := Lib.hid hE
      have herab : era ≤ 1000000000001 := by omega
      have hwe : IntKind.u64.wrap ((l.era : Int) + 1) = (era : Int) := by rw [IntWalk.u64_in _ (by omega)]; omega
      have hwe2 : IntKind.u64.wrap ((era : Int) - 1) = (l.era : Int) := by rw [IntWalk.u64_in _ (by omega)]; omega
      have y1 : w.cell? ⟨p, 1, none⟩ = some (.int .u64 (l.era : Int)) := h.blk.cell 1 rfl
      have f1 : w.frozen? ⟨p, 1, none⟩ = false := h.blk.free 1
      have c2 : w.cell? ⟨p, 2, none⟩ = some (.slice SA l.segs.length sc) := h.blk.cell 2 rfl
      have m1 : Mods (· = p) w (w.setCell ⟨p, 1, none⟩ (.int .u64 (era : Int))) := (Mods.refl (· = p) w).setCell ⟨p, _, none⟩ (.inl rfl) _
      have HX1 : Hid (LX B S F (w.setCell ⟨p, 1, none⟩ (.int .u64 (era : Int))) p g { l with era := era } D Z Y SA sc RA rc) := Lib.hid (h.set 1 _ rfl rfl rfl)
      have HM1 : Hid (Mods (fun b => S b ∨ F b) w (w.setCell ⟨p, 1, none⟩ (.int .u64 (era : Int)))) := Lib.hid (m1.mono (fun i _ e => .inr (by rw [e]; exact h.fp)))
      have HP := Lib.hid (And.intro h.fp h.lb.sge)
      have HE1 : Hid (SEnv B (w.setCell ⟨p, 1, none⟩ (.int .u64 (era : Int)))) := Lib.hid (hE.below (m1.lift (fun b e => by rw [e]; exact (h.lb.bnd p h.fp).1) hB))
      obtain ⟨ns, hns⟩ : ∃ ns, ns = l.segs.length := ⟨_, rfl⟩
      rw [← hns] at c2 hsl hcnt
      have HNS := Lib.hid hns
      have hsz1 : w.heap.size ≤ (w.setCell ⟨p, 1, none⟩ (.int .u64 (era : Int))).heap.size := m1.size
      clear h hd h0 hr hr1 hq1 hq2 hnm2 hnm hE DONE m1 hns hera2
      go_enter Tryz.func50, Tryz.ntmps50
      go_upto_region 8 with (go_at_call 92; refine AL.out.mono ?_; first | rintro e w1 rfl rfl | rintro e w1 ⟨rfl, rfl⟩)
      generalize w.setCell ⟨p, 1, none⟩ (.int .u64 (era : Int)) = w1 at *
      have NC := walNameC HX1.out.blk era rfl (by omega) next (by omega) HE1.out (Nat.le_trans hB hsz1)
      rw [← HNM2.out] at NC
      have NCH := Lib.hid NC
      clear NC y1 f1 c2 AL
      go_wp2_with (go_at_call 97; refine NCH.out.mono ?_)
      first | rintro e w2 rfl hb2 | rintro e w2 ⟨rfl, hb2⟩
      have HX2 := Lib.hid (HX1.out.below hb2)
      have HM2 : Hid (Mods (fun b => S b ∨ F b) w w2) := Lib.hid (HM1.out.below hb2)
      have hsz2 : w.heap.size ≤ w2.heap.size := HM2.out.size
      have PT := diskPutC nm 0 [] none 0 HX2.out.lb.di RB.nil (by simp) (by omega) (by omega) (by omega) (by simp)
      rw [show changeD D ⟨1, nm, ((0 : Int)).toNat, []⟩ (0 : Int) = q1 from by rw [HQ.out.1]; rfl] at PT
      have PTH := Lib.hid PT
      have y0 : w2.cell? ⟨p, 0, none⟩ = some (.pointer (some ⟨g, 0, none⟩)) := HX2.out.blk.cell 0 rfl
      have HQC : Hid (q1.2.cnt ≤ D.cnt + 1) := Lib.hid (by rw [HQ.out.1]; unfold putW; exact wchange_cnt _ _ _)
      clear hb2 NCH PT HX1 HM1 HE1
      go_wp2_with (go_at_call 89; refine PTH.out.mono ?_)
      rintro e w3 ⟨rfl, hd3, m3⟩
      have HX3 := Lib.hid (HX2.out.disk (Nat.le_trans hB hsz2) hd3 m3)
      have HM3 : Hid (Mods (fun b => S b ∨ F b) w w3) := Lib.hid (HM2.out.trans m3 (fun i hi => .inl (.inl hi)))
      have HS3 : Hid (∀ b, Sx S w2 w3 b → S b ∨ w.heap.size ≤ b) := Lib.hid (fun b hb => hb.elim .inl (fun h => .inr (Nat.le_trans hsz2 h.1)))
      have DD := Lib.hid (walDid HX3.out.blk l.down rfl q1.1)
      clear hd3 m3 PTH y0 HX2 HM2
      generalize Sx S w2 w3 = S3 at *
      go_wp2_with (go_at_call 93; refine DD.out.mono ?_)
      first | rintro e w4 rfl rfl | rintro e w4 ⟨rfl, rfl⟩
      have HX4 : Hid (LX B S3 F (w3.setCell ⟨p, 5, none⟩ (.bool (l.down || decide (q1.1 = 11)))) p g (({ l with era := era } : Lg).fell q1.1) q1.2 Z Y SA sc RA rc) := Lib.hid (HX3.out.set 5 _ rfl rfl rfl)
      have HM4 : Hid (Mods (fun b => S b ∨ F b) w (w3.setCell ⟨p, 5, none⟩ (.bool (l.down || decide (q1.1 = 11))))) := Lib.hid (HM3.out.trans ((Mods.refl (· = p) w3).setCell ⟨p, 5, none⟩ (.inl rfl) (.bool (l.down || decide (q1.1 = 11)))) (fun i hi => .inl (.inr (by rw [hi]; exact HP.out.1))))
      clear HX3 HM3 DD
      generalize w3.setCell ⟨p, 5, none⟩ (.bool (l.down || decide (q1.1 = 11))) = w4 at *
      have hsz4 : w.heap.size ≤ w4.heap.size := HM4.out.size
      by_cases hq0 : q1.1 = 0
      · have hqb : (q1.1 == 0) = true := by simpa using hq0
        have HX5 : Hid (LX B S3 F w4 p g { l with era := era } q1.2 Z Y SA sc RA rc) := Lib.hid (HX4.out.same (by rw [hq0]; exact fell_ok HD.out))
        have SY := walSync HX5.out (Nat.le_trans hB hsz4) (by have := HQC.out; omega)
        rw [← HQ.out.2] at SY
        have SYH := Lib.hid SY
        have HR2 : Hid (r = if q2.1 ≠ 0 then (q2.1, l.fell q2.1, q2.2.2) else removeW (l.segs.map Sg.name) { l with era := era, segs := [⟨nm, next, [0]⟩], recs := [], first := next } q2.2.2) := Lib.hid (by have h := HR.out; rw [if_neg (by rw [hq0]; simp)] at h; exact h)
        have HQ3 : Hid (q2 = syncW { l with era := era } q1.2) := Lib.hid HQ.out.2
        rw [hq0]
        clear hq0 hqb SY HX4 HR HQ
        go_wp2_with (go_at_call 44; refine SYH.out.mono ?_)
        rintro e w5 ⟨rfl, S5, hx5, hs5, hm5⟩
        have HM5 : Hid (Mods (fun b => S b ∨ F b) w w5) := Lib.hid (HM4.out.trans hm5 (fun i hi => by
          rcases hi with hi | hi
          · exact (HS3.out i hi).imp .inl id
          · exact .inl (.inr (by rw [hi]; exact HP.out.1))))
        have HS5 : Hid (∀ b, S5 b → S b ∨ w.heap.size ≤ b) := Lib.hid (fun b hb => (hs5 b hb).elim (HS3.out b) (fun h => .inr (Nat.le_trans hsz4 h)))
        have HX6 := Lib.hid hx5
        have hsz5 : w.heap.size ≤ w5.heap.size := HM5.out.size
        clear hx5 hs5 hm5 HM4 HS3 SYH HX5
        by_cases hq0 : q2.1 = 0
        · have hqb : (q2.1 == 0) = true := by simpa using hq0
          have hok := syncW_ok (l := { l with era := era }) (D := q1.2) HD.out (by rw [← HQ3.out]; exact hq0)
          rw [← HQ3.out] at hok
          have HX7 := Lib.hid (HX6.out.same hok.1)
          have HC7 : Hid (q2.2.2.cnt ≤ D.cnt + 1) := Lib.hid (Nat.le_trans hok.2 HQC.out)
          have HR3 : Hid (r = removeW (l.segs.map Sg.name) { l with era := era, segs := [⟨nm, next, [0]⟩], recs := [], first := next } q2.2.2) := Lib.hid (by have h := HR2.out; rw [if_neg (by rw [hq0]; simp)] at h; exact h)
          rw [hq0]
          clear hok HX6 HR2 HQ3 hq0 hqb HQC
          generalize q2.2.2 = D7 at *
          -- the new segment
          have hB5 : B ≤ w5.heap.size := Nat.le_trans hB hsz5
          have hm1 : OV (w5.alloc (.cells #[.int .i64 0] 3)) B 3 (some ⟨w5.heap.size, 0, none⟩) 1 [.int .i64 0] := OV.lit1 w5 hB5 _ _
          have hq1 := Blk.new (w5.alloc (.cells #[.int .i64 0] 3)) #[.string ⟨nm.toArray⟩, .int .u64 (next : Int), .slice (some ⟨w5.heap.size, 0, none⟩) 1 1] TG
          rw [show (w5.alloc (.cells #[.int .i64 0] 3)).heap.size = w5.heap.size + 1 from by simp] at hq1
          have hb7 : Below w5.heap.size w5 ((w5.alloc (.cells #[.int .i64 0] 3)).alloc (.cells #[.string ⟨nm.toArray⟩, .int .u64 (next : Int), .slice (some ⟨w5.heap.size, 0, none⟩) 1 1] TG)) := ((Below.refl _ _).alloc (Nat.le_refl _) _).alloc (by simp) _
          have hsg7 : SgAt ((w5.alloc (.cells #[.int .i64 0] 3)).alloc (.cells #[.string ⟨nm.toArray⟩, .int .u64 (next : Int), .slice (some ⟨w5.heap.size, 0, none⟩) 1 1] TG)) B ⟨nm, next, [0]⟩ ⟨w5.heap.size + 1, w5.heap.size, 1⟩ := ⟨hq1, hm1.alloc _, by simp⟩
          obtain ⟨w7, hw7⟩ : ∃ w7, w7 = (w5.alloc (.cells #[.int .i64 0] 3)).alloc (.cells #[.string ⟨nm.toArray⟩, .int .u64 (next : Int), .slice (some ⟨w5.heap.size, 0, none⟩) 1 1] TG) := ⟨_, rfl⟩
          rw [← hw7] at hb7 hsg7
          have hw7s : w7.heap.size = w5.heap.size + 2 := by rw [hw7]; simp
          have hb8 : Below w7.heap.size w7 (w7.alloc (.cells #[.pointer (some ⟨w5.heap.size + 1, 0, none⟩)] TP)) := (Below.refl _ _).alloc (Nat.le_refl _) _
          have ho8 : OV (w7.alloc (.cells #[.pointer (some ⟨w5.heap.size + 1, 0, none⟩)] TP)) B TP (some ⟨w7.heap.size, 0, none⟩) 1 [.pointer (some ⟨w5.heap.size + 1, 0, none⟩)] := OV.lit1 w7 (by omega) _ _
          have hb58 := hb7.trans (hb8.mono hb7.size)
          have hX8 := (HX7.out.below hb58).wideN (n := w5.heap.size) hB5 (fun b hb => HX7.out.lb.di.bnd b hb)
          have hs8 : (w7.alloc (.cells #[.pointer (some ⟨w5.heap.size + 1, 0, none⟩)] TP)).heap.size = w5.heap.size + 3 := by simp; omega
          have hON := hX8.only (g8 := w7.heap.size) (c8 := 1) (hsg7.below hb8) ho8 ⟨.inr ⟨by omega, by omega⟩, .inr (show w5.heap.size ≤ w5.heap.size + 1 ∧ w5.heap.size + 1 < _ from ⟨by omega, by omega⟩), .inr (show w5.heap.size ≤ w5.heap.size ∧ w5.heap.size < _ from ⟨by omega, by omega⟩)⟩ next
          have HON := Lib.hid hON
          obtain ⟨w8, hw8⟩ : ∃ w8, w8 = w7.alloc (.cells #[.pointer (some ⟨w5.heap.size + 1, 0, none⟩)] TP) := ⟨_, rfl⟩
          rw [← hw8] at HON hb58 hs8
          have m1 : Mods (· = p) w8 (w8.setCell ⟨p, 2, none⟩ (.slice (some ⟨w7.heap.size, 0, none⟩) 1 1)) := (Mods.refl (· = p) w8).setCell ⟨p, _, none⟩ (.inl rfl) _
          have m2 := m1.setCell ⟨p, 3, none⟩ (.inl rfl) (.slice none 0 0)
          have m3 := m2.setCell ⟨p, 4, none⟩ (.inl rfl) (.int .u64 (next : Int))
          have HX8 := Lib.hid (HX7.out.below hb58)
          have HM9 : Hid (Mods (fun b => S b ∨ F b) w (((w8.setCell ⟨p, 2, none⟩ (.slice (some ⟨w7.heap.size, 0, none⟩) 1 1)).setCell ⟨p, 3, none⟩ (.slice none 0 0)).setCell ⟨p, 4, none⟩ (.int .u64 (next : Int)))) := Lib.hid ((HM5.out.below hb58).trans m3 (fun i hi => .inl (.inr (by rw [hi]; exact HP.out.1))))
          have HROW : Hid (RV (((w8.setCell ⟨p, 2, none⟩ (.slice (some ⟨w7.heap.size, 0, none⟩) 1 1)).setCell ⟨p, 3, none⟩ (.slice none 0 0)).setCell ⟨p, 4, none⟩ (.int .u64 (next : Int))) SA (Z.map ptrV)) := Lib.hid ((HX8.out.lb.sv.mods m3 (fun k hk e => HX8.out.lb.sv.ne_blk HX8.out.blk (by decide) (by rw [hk, e]))).rv)
          have HNMS : Hid (∀ y ∈ Z, Blk (((w8.setCell ⟨p, 2, none⟩ (.slice (some ⟨w7.heap.size, 0, none⟩) 1 1)).setCell ⟨p, 3, none⟩ (.slice none 0 0)).setCell ⟨p, 4, none⟩ (.int .u64 (next : Int))) y.2.q TG (sgV y.1 y.2)) := Lib.hid (fun y hy => (HX8.out.lb.sg y hy).blk.mods m3 ((HX8.out.lb.sg y hy).blk.ne HX8.out.blk (by decide)))
          have HZS := Lib.hid HX8.out.zs
          have HSB : Hid ((∀ b, S5 b → b < w8.heap.size) ∧ p < w8.heap.size) := Lib.hid ⟨fun b hb => HX8.out.lb.di.bnd b hb, HX8.out.blk.lt⟩
          have y2 : w8.cell? ⟨p, 2, none⟩ = some (.slice SA l.segs.length sc) := HX8.out.blk.cell 2 rfl
          have y3 : w8.cell? ⟨p, 3, none⟩ = some (.slice RA l.recs.length rc) := HX8.out.blk.cell 3 rfl
          have y4 : w8.cell? ⟨p, 4, none⟩ = some (.int .u64 (l.first : Int)) := HX8.out.blk.cell 4 rfl
          have f2 : w8.frozen? ⟨p, 2, none⟩ = false := HX8.out.blk.free 2
          have f3 : w8.frozen? ⟨p, 3, none⟩ = false := HX8.out.blk.free 3
          have f4 : w8.frozen? ⟨p, 4, none⟩ = false := HX8.out.blk.free 4
          rw [hw8, hw7] at y2 y3 y4 f2 f3 f4
          have hp5 : p < w5.heap.size := HX7.out.blk.lt
          have HW := Lib.hid (And.intro hw7 (And.intro hw8 hw7s))
          clear hm1 hq1 hb7 hsg7 hw7 hw8 hb8 ho8 hX8 hON hb58 m1 m2 m3 HX7 HX8 HM5
          go_upto_region 16 with fail
          rw [show w5.heap.size + 1 + 1 = w7.heap.size from by rw [HW.out.2.2], ← HW.out.1, ← HW.out.2.1]
          clear y2 y3 y4 f2 f3 f4
          have hs89 : w8.heap.size ≤ (((w8.setCell ⟨p, 2, none⟩ (.slice (some ⟨w7.heap.size, 0, none⟩) 1 1)).setCell ⟨p, 3, none⟩ (.slice none 0 0)).setCell ⟨p, 4, none⟩ (.int .u64 (next : Int))).heap.size := (((Mods.refl (· = p) w8).setCell ⟨p, 2, none⟩ (.inl rfl) (.slice (some ⟨w7.heap.size, 0, none⟩) 1 1)).setCell ⟨p, 3, none⟩ (.inl rfl) (.slice none 0 0)).setCell ⟨p, 4, none⟩ (.inl rfl) (.int .u64 (next : Int)) |>.size
          generalize ((w8.setCell ⟨p, 2, none⟩ (.slice (some ⟨w7.heap.size, 0, none⟩) 1 1)).setCell ⟨p, 3, none⟩ (.slice none 0 0)).setCell ⟨p, 4, none⟩ (.int .u64 (next : Int)) = w9 at *
          obtain ⟨NL, hNL⟩ : ∃ NL, NL = Z.map (fun y => y.1.name) := ⟨_, rfl⟩
          have HNS2 : Hid (NL.length = ns ∧ Z.length = ns ∧ l.segs.map Sg.name = NL) := Lib.hid (by
            have hz := HZS.out
            have e1 : Z.map Prod.fst = l.segs := hz
            refine ⟨?_, ?_, ?_⟩
            · rw [hNL, HNS.out, ← e1]; simp
            · rw [HNS.out, ← e1]; simp
            · rw [hNL, ← e1, List.map_map]; rfl)
          have HNL := Lib.hid hNL
          have hs9 : w.heap.size ≤ w9.heap.size := HM9.out.size
          clear hNL HW hw7s hs8
          go_wp2_with fail
          go_loopw [9, 73] (fun s9 s73 wr => ∃ (i : Nat) (R : Option Addr) (c : Nat), i ≤ ns ∧ s73 = .int .i64 (i : Int) ∧ s9 = .slice R i c ∧ Hid (OV wr w9.heap.size 9 R c ((NL.take i).map encStr)) ∧ Hid (Below w9.heap.size w9 wr)) (fun _ s73 _ => ns - (intOf s73).toNat)
          case atStart => exact ⟨0, none, 0, Nat.zero_le _, rfl, rfl, Lib.hid (OV.nil _ _ _), Lib.hid (Below.refl _ _)⟩
          case round =>
            obtain ⟨i, R, c, hi, rfl, rfl, HOV, HBL⟩ := hrel
            by_cases hlt : i < ns
            · have hki : (i : Int) < (ns : Int) := by omega
              have hki0 : (0 : Int) ≤ (i : Int) := by omega
              obtain ⟨xb, off, rfl, hbl, hc⟩ := (HROW.out.below HBL.out).cell (j := i) (by rw [List.length_map, HNS2.out.2.1]; exact hlt)
              obtain ⟨yz, hyz⟩ : ∃ yz, Z[i]? = some yz := ⟨_, List.getElem?_eq_getElem (by rw [HNS2.out.2.1]; exact hlt)⟩
              have hc' : wr.cell? ⟨xb, off + i, none⟩ = some (.pointer (some ⟨yz.2.q, 0, none⟩)) := by
                rw [hc]
                congr 1
                have e : (Z.map ptrV)[i]? = some (ptrV yz) := by rw [List.getElem?_map, hyz]; rfl
                exact (List.getElem?_eq_some_iff.1 e).2
              have hyn : NL[i]? = some yz.1.name := by rw [HNL.out, List.getElem?_map, hyz]; rfl
              have hym : yz ∈ Z := List.mem_of_getElem? hyz
              have hn0 : wr.cell? ⟨yz.2.q, 0, none⟩ = some (.string ⟨yz.1.name.toArray⟩) := ((HNMS.out yz hym).kept HBL.out).cell 0 rfl
              obtain ⟨xs, hxs⟩ : ∃ xs, xs = (NL.take i).map encStr := ⟨_, rfl⟩
              have hxl : i = xs.length := by rw [hxs, List.length_map, List.length_take, HNS2.out.1]; omega
              have hHV := HOV.out
              rw [← hxs] at hHV
              have HTK : Hid ((NL.take (i + 1)).map encStr = xs ++ [.string ⟨yz.1.name.toArray⟩]) := Lib.hid (by
                rw [List.take_add_one, hyn, List.map_append, ← hxs]; rfl)
              have hb9 : Below wr.heap.size wr (wr.alloc (.cells #[.string ⟨yz.1.name.toArray⟩] 9)) := (Below.refl _ _).alloc (Nat.le_refl _) _
              have HC9 := Lib.hid ((Blk.new wr #[.string ⟨yz.1.name.toArray⟩] 9).cell (j := 0) (v := .string ⟨yz.1.name.toArray⟩) rfl)
              have HOV2 := Lib.hid (hHV.below hb9)
              have HBL2 := Lib.hid (HBL.out.trans (hb9.mono HBL.out.size))
              have hs10 : w9.heap.size ≤ (wr.alloc (.cells #[.string ⟨yz.1.name.toArray⟩] 9)).heap.size := HBL2.out.size
              obtain ⟨i0, hi0, hz0, hz1, hz2⟩ := info_parts str_info3
              clear HOV hHV hxs hb9 hc hyz hyn hym HBL
              subst hxl
              generalize yz.1.name = nm2 at *
              go_wp2_with (at_builtin; go_loud (refine wp_appendK _ rfl (.tmp 77) (.tmp 82) 79 9 rfl Tryz.underlying79 hi0 hz0 hz1 hz2 rfl w9.heap.size R c 1 wr.heap.size xs (.string ⟨nm2.toArray⟩) rfl rfl HOV2.out HC9.out rfl (by omega) (by omega) hs10 ?_))
              intro ys m9 g9 c9 w10 hys hm9 ho9 hk9 hg9 hat9
              subst hm9
              have HB10 : Hid (Below w9.heap.size w9 w10) := Lib.hid (Mods.old HBL2.out (Mods.of_grown (S := fun b => w9.heap.size ≤ b) hg9 (fun k e => (HOV2.out.blk_lt k e).1)) hs10 (fun i _ e => e))
              have HO10 : Hid (OV w10 w9.heap.size 9 (some ⟨g9, 0, none⟩) c9 ((NL.take (xs.length + 1)).map encStr)) := Lib.hid (by rw [HTK.out]; exact ho9)
              clear hys ho9 hk9 hg9 hat9 HOV2 HBL2 HC9 HTK hi0 hz0 hz1 hz2
              go_wp2_with fail
              go_roundw
              case rel => exact ⟨xs.length + 1, _, _, by omega, by go_num, rfl, HO10, HB10⟩
              case measure => simp [intOf]; omega
            · obtain rfl : i = ns := by omega
              have HX10 := Lib.hid (HON.out.below HBL.out)
              have HM10 : Hid (Mods (fun b => S b ∨ F b) w wr) := Lib.hid (HM9.out.below HBL.out)
              have hnl : NL.take i = NL := List.take_of_length_le (by rw [HNS2.out.1]; exact Nat.le_refl _)
              rw [hnl] at HOV
              have hs10 : w.heap.size ≤ wr.heap.size := HM10.out.size
              have hcap2 := HOV.out.cap
              rw [List.length_map] at hcap2
              have RM := walRemove HX10.out (Nat.le_trans hB hs10) NL (by rw [HNS2.out.1]; have := HC7.out; omega) R c HOV.out.rv (fun _ b hb => by
                have h1 := (HOV.out.blk_lt b hb).1
                exact ⟨fun hs => by have := HSB.out.1 b hs; omega, fun e => by have := HSB.out.2; omega⟩) (fun f hf => by
                rw [← HNS2.out.2.2] at hf
                obtain ⟨s, hs, rfl⟩ := List.mem_map.1 hf
                exact HNM.out s hs) hcap2
              have hrr := HR3.out
              rw [HNS2.out.2.2] at hrr
              rw [show removeW NL { l with era := era, segs := [⟨nm, next, [0]⟩], recs := [], first := next } D7 = r from hrr.symm, HNS2.out.1] at RM
              have RMH := Lib.hid RM
              clear RM hcap2 hnl hrr HR3 HON HM9 HROW HBL
              go_wp2_with (go_at_call 95; refine RMH.out.mono ?_)
              rintro e w12 ⟨rfl, S12, hx12, hs12, hm12⟩
              have HF : Hid (LDone B S F w p g (.int .i64 r.1) r.2.1 r.2.2 (.returned (.int .i64 r.1)) w12) := Lib.hid ⟨rfl, S12, _, ⟨_, _, _, _, _, _, hx12⟩, fun b hb => (hs12 b hb).elim (HS5.out b) (fun h => .inr (Nat.le_trans hs10 h)), fun b hb => hb.imp id (fun h => Nat.le_trans hsz5 h.1), HM10.out.trans hm12 (fun i hi => by
                rcases hi with hi | hi
                · exact (HS5.out i hi).imp .inl id
                · exact .inl (.inr (by rw [hi]; exact HP.out.1)))⟩
              clear hx12 hs12 hm12 RMH HX10 HM10 HOV
              go_wp2_with fail
              go_ret
              exact HF.out
        · have hqb : (q2.1 == 0) = false := by simpa using hq0
          have HX7 : Hid (LX B S5 F w5 p g (({ l with era := era } : Lg).fell q2.1) q2.2.2 Z Y SA sc RA rc) := Lib.hid (HX6.out.same (by
            have h := HQ3.out
            unfold syncW at h
            rw [if_neg (by have := HD.out; simp only; rw [this]; simp)] at h
            rw [h]))
          have y1 : w5.cell? ⟨p, 1, none⟩ = some (.int .u64 (era : Int)) := HX7.out.blk.cell 1 rfl
          have f1 : w5.frozen? ⟨p, 1, none⟩ = false := HX7.out.blk.free 1
          have HF : Hid (LDone B S F w p g (.int .i64 r.1) r.2.1 r.2.2 (.returned (.int .i64 q2.1)) (w5.setCell ⟨p, 1, none⟩ (.int .u64 (l.era : Int)))) := Lib.hid (by
            rw [HR2.out, if_pos hq0]
            exact ⟨rfl, S5, F, ⟨_, _, _, _, _, _, HX7.out.set 1 (.int .u64 (l.era : Int)) (l' := l.fell q2.1) rfl rfl rfl⟩, HS5.out, fun b hb => .inl hb, HM5.out.trans ((Mods.refl (· = p) w5).setCell ⟨p, 1, none⟩ (.inl rfl) (.int .u64 (l.era : Int))) (fun i hi => .inl (.inr (by rw [hi]; exact HP.out.1)))⟩)
          clear HX6 HX7 HM5 HS5 HR2 HQ3 hq0
          go_wp2_with fail
          go_ret
          exact HF.out
      · have hqb : (q1.1 == 0) = false := by simpa using hq0
        have y1 : w4.cell? ⟨p, 1, none⟩ = some (.int .u64 (era : Int)) := HX4.out.blk.cell 1 rfl
        have f1 : w4.frozen? ⟨p, 1, none⟩ = false := HX4.out.blk.free 1
        have HF : Hid (LDone B S F w p g (.int .i64 r.1) r.2.1 r.2.2 (.returned (.int .i64 q1.1)) (w4.setCell ⟨p, 1, none⟩ (.int .u64 (l.era : Int)))) := Lib.hid (by
          rw [HR.out, if_pos hq0]
          exact ⟨rfl, S3, F, ⟨_, _, _, _, _, _, HX4.out.set 1 (.int .u64 (l.era : Int)) (l' := l.fell q1.1) rfl rfl rfl⟩, HS3.out, fun b hb => .inl hb, HM4.out.trans ((Mods.refl (· = p) w4).setCell ⟨p, 1, none⟩ (.inl rfl) (.int .u64 (l.era : Int))) (fun i hi => .inl (.inr (by rw [hi]; exact HP.out.1)))⟩)
        clear HX4 HM4 HS3 HR HQ hq0
        go_wp2_with fail
        go_ret
        exact HF.out
end
end Go.Proofs.YtobdmlejabjmiaaGreatDoor


/- Contracts of codec.PutBytes and of its reference. -/
namespace Go.Proofs.YtobdmlejabjmiaaGreatDoor
open Go.RowKit

/-- Lists of bytes as they are written. -/
def putB (l : List UInt8) : List UInt8 := putNum l.length ++ l
def putAll (L : List (Option Addr × Nat × List UInt8)) : List UInt8 := L.flatMap fun t => putB t.2.2
theorem putNum_len (n : Nat) : (putNum n).length ≤ 9 := by simp [putNum]; exact low_len n
theorem putB_len (l : List UInt8) : (putB l).length ≤ l.length + 9 := by have := putNum_len l.length; simp [putB]; omega
theorem putAll_snoc (L : List (Option Addr × Nat × List UInt8)) (k : Nat) (h : k < L.length) : putAll (L.take (k + 1)) = putAll (L.take k) ++ putNum L[k].2.2.length ++ L[k].2.2 := by
  rw [List.take_succ_eq_append_getElem h]; unfold putAll; rw [List.flatMap_append]; simp [putB]
theorem putAll_le (L : List (Option Addr × Nat × List UInt8)) (k : Nat) : (putAll (L.take k)).length ≤ (putAll L).length := by
  conv => rhs; rw [← List.take_append_drop k L]
  unfold putAll; rw [List.flatMap_append]; simp

set_option maxHeartbeats 1000000 in
theorem putBytesB (A X : Option Addr) (c d : Nat) (b : List UInt8) (L : List (Option Addr × Nat × List UInt8)) (w : World) (h : RB w A b) (hX : RBB w X L) (hL : L.length ≤ 9223372036854775807)
    (hl : b.length + (putAll L).length ≤ 218000000000000) :
    Calls Tryz.prog 166 #[.slice A b.length c, .slice X L.length d] w (NewB w (b ++ putAll L)) := by
  go_enter Tryz.func166, Tryz.ntmps166
  go_wp2_with fail
  refine (cloneB A c b _ h (by omega)).mono ?_
  rintro e w1 ⟨k1, A1, c1, hk1, hk2, hk3, rfl, ho1, hb1⟩
  go_wp2_with fail
  go_loopw [5, 12] (fun v i wr => ∃ (k : Nat) (q : List UInt8) (B : Option Addr) (cb : Nat), k ≤ L.length ∧ i = .int .i64 (k : Int) ∧ v = .slice B q.length cb ∧
      Hid (q = b ++ putAll (L.take k)) ∧ OB wr w.heap.size B cb q ∧ Below w.heap.size w wr)
    (fun _ i _ => L.length - (intOf i).toNat)
  case atStart => exact ⟨0, k1, A1, c1, Nat.zero_le _, rfl, rfl, Lib.hid (by rw [hk1.out]; simp [putAll]), ho1, hb1⟩
  case round =>
    obtain ⟨k, q, B, cb, hk, rfl, rfl, hq, ho, hb⟩ := hrel
    by_cases hlt : k < L.length
    · obtain ⟨bb, off, rfl, hbl, hc⟩ := (hX.below hb).cell hlt
      obtain ⟨hr1, hr2⟩ := hX.each L[k] (List.getElem_mem hlt)
      have hq1 : q.length + 9 + L[k].2.2.length ≤ 219000000000000 := by
        have h1 := putAll_le L (k + 1)
        rw [putAll_snoc L k hlt] at h1
        have h2 := congrArg List.length hq.out
        simp at h1 h2
        omega
      obtain ⟨y, hy⟩ : ∃ y, y = L[k].2.2 := ⟨_, rfl⟩
      obtain ⟨Y, hY⟩ : ∃ Y, Y = L[k].1 := ⟨_, rfl⟩
      obtain ⟨z, hz⟩ : ∃ z, z = L[k].2.1 := ⟨_, rfl⟩
      rw [← hy, ← hY, ← hz] at hc
      rw [← hy] at hq1 hr2
      rw [← hy, ← hY] at hr1
      have HY := Lib.hid hy
      clear hy hY hz hk1 hk2 hk3 ho1 hb1
      go_wp2_with fail
      refine (putNumB B cb q y.length _ ho.rb (by omega) (by omega) (by omega)).mono ?_
      rintro e w2 ⟨k2, A2, c2, hk2, hk21, hk22, rfl, ho2, hb2⟩
      have hk2b : k2.length ≤ q.length + 9 := by
        have := putNum_len (y.length : Int).toNat; rw [List.length_append] at hk21; omega
      have hr2' : RB w2 Y y := (hr1.below hb).below hb2
      have hb2' : Below w.heap.size w w2 := hb.trans (hb2.mono hb.size)
      have H2 := Lib.hid (show k2 = q ++ putNum y.length by rw [hk2.out]; simp)
      clear hk2 hk21 hk22
      go_wp2_with (at_builtin; refine wp_appendB _ rfl (.tmp 20) (.tmp 21) rfl w.heap.size _ _ _ _ k2 y rfl rfl (ho2.base_le hb.size) hr2' (by omega) hb2'.size ?_; intro k4 A4 c4 w4 hk4 hk41 hk42 ho4 hg4)
      have hb4 : Below w.heap.size w w4 := hb2'.grown hg4 hb2'.size fun g hg => by have := (ho2.own_lt g hg).1; have := hb.size; omega
      have H4 : Hid (k4 = b ++ putAll (L.take (k + 1))) := Lib.hid (by
        rw [hk4.out, H2.out, hq.out, putAll_snoc L k hlt, ← HY.out]; simp)
      clear hk4 hk41 hk42 hg4 hb2 hb2' ho2 hr2' ho hb hq H2 hc hr1
      go_roundw
      case rel => exact ⟨k + 1, k4, A4, c4, by omega, by go_num, rfl, H4, ho4, hb4⟩
      case measure => simp [intOf]; omega
    · go_wp2_with fail
      go_ret
      exact newB (by rw [hq.out, List.take_of_length_le (by omega)]) ho hb

end Go.Proofs.YtobdmlejabjmiaaGreatDoor


/- Plain: which configurations, snapshots and hard states are sound; their numbers as bytes. -/
namespace Go.Proofs.YtobdmlejabjmiaaGreatDoor
open Go.Lib

/-- Does a list rise at a place, within 1 to 16? -/
def riseAt (l : List Int) (k : Nat) : Bool := decide (1 ≤ l.getD k 0) && decide (l.getD k 0 ≤ 16) && (decide (k = 0) || decide (l.getD (k - 1) 0 < l.getD k 0))
def risesB (l : List Int) : Bool := (List.range l.length).all (riseAt l)
theorem risesB_yes {l : List Int} (h : ∀ k, k < l.length → riseAt l k = true) : risesB l = true := by
  unfold risesB
  rw [List.all_eq_true]
  exact fun k hk => h k (List.mem_range.1 hk)
theorem risesB_at {l : List Int} (h : risesB l = true) {k : Nat} (hk : k < l.length) : riseAt l k = true := by
  unfold risesB at h
  rw [List.all_eq_true] at h
  exact h k (List.mem_range.2 hk)
theorem risesB_no {l : List Int} {k : Nat} (hk : k < l.length) (h : riseAt l k = false) : risesB l = false := by
  cases e : risesB l with
  | false => rfl
  | true => rw [risesB_at e hk] at h; cases h
theorem rises_ge {l : List Int} (h : risesB l = true) : ∀ k, k < l.length → (k : Int) + 1 ≤ l.getD k 0
  | 0, hk => by
    have := risesB_at h hk
    unfold riseAt at this
    simp only [Bool.and_eq_true, decide_eq_true_eq] at this
    omega
  | k + 1, hk => by
    have h1 := rises_ge h k (by omega)
    have := risesB_at h hk
    unfold riseAt at this
    simp only [Bool.and_eq_true, Bool.or_eq_true, decide_eq_true_eq, Nat.add_sub_cancel] at this
    omega
theorem rises_len {l : List Int} (h : risesB l = true) : l.length ≤ 16 := by
  rcases Nat.eq_zero_or_pos l.length with h0 | h0
  · omega
  · have h1 := rises_ge h (l.length - 1) (by omega)
    have := risesB_at h (k := l.length - 1) (by omega)
    unfold riseAt at this
    simp only [Bool.and_eq_true, decide_eq_true_eq] at this
    omega
theorem rises_in {l : List Int} (h : risesB l = true) : ∀ z ∈ l, 1 ≤ z ∧ z ≤ 16 := by
  intro z hz
  obtain ⟨k, hk, rfl⟩ := List.mem_iff_getElem.1 hz
  have := risesB_at h hk
  unfold riseAt at this
  simp only [Bool.and_eq_true, decide_eq_true_eq, List.getD_eq_getElem?_getD, List.getElem?_eq_getElem hk, Option.getD_some] at this
  exact this.1
def confB (v l : List Int) : Bool := risesB v && risesB l && decide (0 < v.length) && !(v.any fun n => l.contains n)
def shotB (i t : Nat) (v l : List Int) (n : Nat) : Bool := confB v l && decide (n ≤ 32768) && (decide (i = 0) == decide (t = 0)) && decide (i ≤ 4611686018427387904) && decide (t ≤ 4611686018427387904)
def hardB (v : Int) : Bool := decide (0 ≤ v) && decide (v ≤ 16)
theorem confB_parts {v l : List Int} (h : confB v l = true) : risesB v = true ∧ risesB l = true ∧ 0 < v.length := by
  unfold confB at h
  simp only [Bool.and_eq_true, decide_eq_true_eq] at h
  exact ⟨h.1.1.1, h.1.1.2, h.1.2⟩
theorem shotB_parts {i t n : Nat} {v l : List Int} (h : shotB i t v l n = true) : confB v l = true ∧ n ≤ 32768 ∧ (i = 0 ↔ t = 0) ∧ i ≤ 4611686018427387904 ∧ t ≤ 4611686018427387904 := by
  unfold shotB at h
  simp only [Bool.and_eq_true, decide_eq_true_eq, beq_iff_eq] at h
  refine ⟨h.1.1.1.1, h.1.1.1.2, ?_, h.1.2, h.2⟩
  have := h.1.1.2
  by_cases h1 : i = 0 <;> by_cases h2 : t = 0 <;> simp_all
/-- Numbers, one behind the other. -/
def putNums (ns : List Int) : List UInt8 := ns.flatMap fun n => putNum n.toNat
theorem putNums_snoc (ns : List Int) (k : Nat) (h : k < ns.length) : putNums (ns.take (k + 1)) = putNums (ns.take k) ++ putNum ns[k].toNat := by
  unfold putNums
  rw [List.take_add_one, List.getElem?_eq_getElem h, List.flatMap_append]
  simp
theorem putNums_len (ns : List Int) : (putNums ns).length ≤ 9 * ns.length := by
  induction ns with
  | nil => simp [putNums]
  | cons n l ih =>
    have h1 := putNum_len n.toNat
    unfold putNums at ih ⊢
    simp only [List.flatMap_cons, List.length_append, List.length_cons]
    omega
def idsB (l : List Int) : List UInt8 := putNums [(l.length : Int)] ++ putNums l
def shotBytes (i t : Nat) (v l : List Int) (d : List UInt8) : List UInt8 := putNums [(i : Int), (t : Int)] ++ idsB v ++ idsB l ++ putB d
def hardBytes (t : Nat) (v : Int) : List UInt8 := putNums [(t : Int), v]
theorem hardBytes_len (t : Nat) (v : Int) : (hardBytes t v).length ≤ 18 := putNums_len _
end Go.Proofs.YtobdmlejabjmiaaGreatDoor

