/- Contracts of package slot: Load, Save. -/
import Derived.Test.YtpfamdcdbjaflaaGreatDoorSlotB
namespace Go.Proofs.YtpfamdcdbjaflaaGreatDoor
open Go.RowKit

def loadB (s : Sl) : List UInt8 := if loadE s = 0 then s.value else []
/-- What Load answers. -/
def LoadEnd (s : Sl) (w : World) (e : Ending) (w' : World) : Prop :=
  ∃ A c, e = .returned (.tuple #[.slice A (loadB s).length c, .int .i64 (loadE s)]) ∧ OB w' w.heap.size A c (loadB s) ∧ Below w.heap.size w w'
theorem loadEnd_no {s : Sl} {w : World} {k : Int} (h : loadE s = k) (hk : k ≠ 0) : LoadEnd s w (.returned (.tuple #[.slice none 0 0, .int .i64 k])) w := by
  have hB : loadB s = [] := by unfold loadB; rw [h, if_neg hk]
  exact ⟨none, 0, by rw [hB, h]; rfl, by rw [hB]; exact OB.nil _ _, Below.refl _ _⟩
section
variable {B p g cv co : Nat} {S : Nat → Prop} {w w' : World} {s s' : Sl} {D D' : DSt} {V O : Option Addr}
set_option maxRecDepth 20000 in
set_option maxHeartbeats 2000000 in
theorem slotLoad (h : SR B S w p g s D V cv O co) (hl : s.value.length ≤ 100000) : Calls Tryz.prog 11 #[.pointer (some ⟨p, 0, none⟩)] w (LoadEnd s w) := by
  have c3 : w.cell? ⟨p, 3, none⟩ = some (.slice V s.value.length cv) := h.blk.cell 3 rfl
  have c4 : w.cell? ⟨p, 4, none⟩ = some (.bool s.has) := h.blk.cell 4 rfl
  have c6 : w.cell? ⟨p, 6, none⟩ = some (.bool s.down) := h.blk.cell 6 rfl
  have CL := Lib.hid (cloneB' V cv s.value w h.val.rb (by omega))
  clear h
  cases hd : s.down with
  | true =>
    have HF := Lib.hid (loadEnd_no (s := s) (w := w) (k := 11) (by unfold loadE; rw [if_pos hd]) (by decide))
    rw [hd] at c6
    clear hd
    go_enter Tryz.func11, Tryz.ntmps11
    go_wp2_with fail
    go_ret2
    exact HF.out
  | false =>
    rw [hd] at c6
    cases hh : s.has with
    | false =>
      have HF := Lib.hid (loadEnd_no (s := s) (w := w) (k := 8) (by unfold loadE; rw [if_neg (by rw [hd]; simp), if_pos hh]) (by decide))
      rw [hh] at c4
      clear hd hh
      go_enter Tryz.func11, Tryz.ntmps11
      go_wp2_with fail
      go_ret2
      exact HF.out
    | true =>
      rw [hh] at c4
      have HE : Hid (loadE s = 0) := Lib.hid (by unfold loadE; rw [if_neg (by rw [hd]; simp), if_neg (by rw [hh]; simp)])
      have HB : Hid (loadB s = s.value) := Lib.hid (by unfold loadB; rw [if_pos HE.out])
      clear hd hh
      go_enter Tryz.func11, Tryz.ntmps11
      go_wp2_with (go_at_call 28; refine CL.out.mono ?_)
      rintro e w1 ⟨A, c, rfl, ho, hb⟩
      have HO := Lib.hid ho
      have HBL := Lib.hid hb
      clear ho hb CL
      go_wp2_with fail
      go_ret2
      exact ⟨A, c, by rw [HB.out, HE.out]; rfl, by rw [HB.out]; exact HO.out, HBL.out⟩
theorem slotLoad_nil (w : World) : Calls Tryz.prog 11 #[.pointer none] w fun e w' => e = .returned (.tuple #[.slice none 0 0, .int .i64 1]) ∧ w = w' := by
  go_enter Tryz.func11, Tryz.ntmps11
  go_wp2_with fail
  go_ret2
  exact ⟨rfl, rfl⟩
theorem slotSave_nil (A : Option Addr) (l c : Nat) (w : World) : Calls Tryz.prog 13 #[.pointer none, .slice A l c] w fun e w' => e = .returned (.int .i64 1) ∧ w = w' := by
  go_enter Tryz.func13, Tryz.ntmps13
  go_wp2_with fail
  go_ret
  exact ⟨rfl, rfl⟩
theorem slotSave_large (h : SR B S w p g s D V cv O co) (hd : s.down = false) (A : Option Addr) (l c : Nat) (hl : 65520 < l) (hm : l ≤ 9223372036854775807) : Calls Tryz.prog 13 #[.pointer (some ⟨p, 0, none⟩), .slice A l c] w fun e w' => e = .returned (.int .i64 7) ∧ w = w' := by
  have c6 : w.cell? ⟨p, 6, none⟩ = some (.bool s.down) := h.blk.cell 6 rfl
  rw [hd] at c6
  have hl' : (65520 : Int) < (l : Int) := by omega
  clear h hd
  go_enter Tryz.func13, Tryz.ntmps13
  go_wp2_with fail
  go_ret
  exact ⟨rfl, rfl⟩

theorem OV.lit1 (w : World) {base : Nat} (hb : base ≤ w.heap.size) (v : Value) (T : TypeId) : OV (w.alloc (.cells #[v] T)) base T (some ⟨w.heap.size, 0, none⟩) 1 [v] :=
  World.ownsRow_lit w #[v] 1 hb (by unfold maxLen; omega) rfl
theorem SR.same (h : SR B S w p g s D V cv O co) (e : s = s') : SR B S w p g s' D V cv O co := by subst e; exact h
theorem up_same (s : Sl) (h : s.down = false) : ({ s with down := false } : Sl) = s := by
  obtain ⟨a1, a2, a3, a4, a5, a6⟩ := s
  simp only at h
  subst h
  rfl
set_option maxRecDepth 20000 in
set_option maxHeartbeats 8000000 in
theorem slotSave (h : SR B S w p g s D V cv O co) (hB : B ≤ w.heap.size) (hE : SEnv B w) (hd : s.down = false) (x : List UInt8) (Y : Option Addr) (cy : Nat) (hY : RB w Y x) (hYS : 0 < x.length → ∀ b, Y.map (·.block) = some b → ¬ S b ∧ b ≠ p) (hx : x.length ≤ 65520) (hl : s.last + 1 < 18446744073709551616) (hcnt : D.cnt ≤ 1000) (hfs : D.files.length ≤ 1000) (hol : s.old.length ≤ 1000) :
    Calls Tryz.prog 13 #[.pointer (some ⟨p, 0, none⟩), .slice Y x.length cy] w (SDone B S w V p g (.int .i64 (saveS s D x).1) (saveS s D x).2.1 (saveS s D x).2.2) := by
  obtain ⟨r, hr⟩ : ∃ r, r = saveS s D x := ⟨_, rfl⟩
  rw [← hr]
  unfold saveS at hr
  rw [if_neg (by rw [hd]; simp), if_neg (by omega)] at hr
  have c6 : w.cell? ⟨p, 6, none⟩ = some (.bool false) := by rw [← hd]; exact h.blk.cell 6 rfl
  have FR := Lib.hid (codecFrame Y cy x w hY (by omega))
  have hxl : (x.length : Int) ≤ 65520 := by omega
  have HS := Lib.hid h
  have HE := Lib.hid hE
  have HRR := Lib.hid hr
  have HY := Lib.hid hY
  have HYS := Lib.hid hYS
  clear h hE hr hY hYS
  go_enter Tryz.func13, Tryz.ntmps13
  go_wp2_with (go_at_call 29; refine FR.out.mono ?_)
  rintro e w1 ⟨k, A, c, hk, hk1, hk2, rfl, ho, hb1⟩
  have hkf := hk.out
  subst hkf
  have hR1 := HS.out.below hb1
  have HE1 := Lib.hid (HE.out.below (hb1.mono hB))
  have hB1 : B ≤ w1.heap.size := Nat.le_trans hB hb1.size
  have c2 : w1.cell? ⟨p, 2, none⟩ = some (.int .u64 (s.last : Int)) := hR1.blk.cell 2 rfl
  have hw := IntWalk.u64_in ((s.last : Int) + 1) (by omega)
  have hfi := slotFile hR1.blk rfl hR1.bl (s.last + 1) hl HE1.out hB1
  rw [Int.natCast_add] at hfi
  have FI := Lib.hid hfi
  have HO1 := Lib.hid ho
  have HB1 := Lib.hid hb1
  have HR1 := Lib.hid hR1
  clear FR c6 hk hk1 hk2 ho hb1 hR1 hfi HE1
  go_wp2_with (go_at_call 26; refine FI.out.mono ?_)
  rintro e w2 ⟨rfl, hb2⟩
  obtain ⟨f, hf⟩ : ∃ f, f = fileN s.base (s.last + 1) := ⟨_, rfl⟩
  rw [← hf]
  have hR2 := HR1.out.below hb2
  have hB2 : B ≤ w2.heap.size := Nat.le_trans hB1 hb2.size
  obtain ⟨q1, hq1⟩ : ∃ q1, q1 = putS D f x := ⟨_, rfl⟩
  have hfl : f.length ≤ 1000 := by
    rw [hf]; unfold fileN
    have := Go.Lib.decDigits_length (s.last + 1)
    have h2 := nDigits_le hl
    have := HR1.out.bl
    simp only [List.length_append, List.length_cons, List.length_nil]
    omega
  have hfrl := frame_len x
  have hnS : ∀ b, A.map (·.block) = some b → ¬ S b := fun b hb hs => by
    have h1 := (HO1.out.blk_in b hb).1
    have h2 := HS.out.di.bnd b hs
    omega
  have hpt := diskPutC f 0 (frameB x) A c hR2.di (HO1.out.below hb2).rb (fun _ => hnS) (by omega) (by omega) (by omega) (by omega)
  rw [show changeD D ⟨1, f, (0 : Int).toNat, frameB x⟩ 0 = q1 from hq1.symm] at hpt
  have PT := Lib.hid hpt
  have d0 : w2.cell? ⟨p, 0, none⟩ = some (.pointer (some ⟨g, 0, none⟩)) := hR2.blk.cell 0 rfl
  have HR2 := Lib.hid hR2
  have HB2 := Lib.hid (HB1.out.trans (hb2.mono HB1.out.size))
  have HFL := Lib.hid hfl
  have HF := Lib.hid hf
  have HQ1 := Lib.hid hq1
  clear FI c2 hw hR2 hpt hb2 hfl hfrl hf hq1 HR1 HO1 HB1 hnS
  go_wp2_with (go_at_call 31; refine PT.out.mono ?_)
  rintro e w3 ⟨rfl, hd3, m3⟩
  have hR3 := HR2.out.disk hB2 hd3 m3
  have hdd := slotDid hR3.blk s.down rfl q1.1
  rw [hd] at hdd
  simp only [Bool.false_or] at hdd
  have DD := Lib.hid hdd
  have hR4 : SR B (Sx S w2 w3) (w3.setCell ⟨p, 6, none⟩ (.bool (decide (q1.1 = 11)))) p g { s with down := decide (q1.1 = 11) } q1.2 V cv O co := hR3.set 6 _ rfl rfl rfl rfl
  have hm4 : Mods (fun b => S b ∨ b = p) w (w3.setCell ⟨p, 6, none⟩ (.bool (decide (q1.1 = 11)))) := (((Mods.of_below HB2.out).trans m3 (fun i hi => .inl (.inl hi))).setCell ⟨p, 6, none⟩ (.inl (.inr rfl)) _)
  have hn4 : ∀ b, Sx S w2 w3 b → S b ∨ w.heap.size ≤ b := fun b hb => by
    rcases hb with hb | hb
    · exact .inl hb
    · exact .inr (Nat.le_trans HB2.out.size hb.1)
  have HR4 := Lib.hid hR4
  have HM4 := Lib.hid hm4
  have HN4 := Lib.hid hn4
  have hs4 := hm4.size
  have HRB := Lib.hid (HRR.out)
  rw [← HF.out, ← HQ1.out] at HRB
  have hq1c : q1.2.cnt ≤ D.cnt + 1 := by rw [HQ1.out]; exact change_cnt _ _ _
  clear d0 hd3 m3 hR3 hdd hR4 hm4 hn4 PT HR2 HB2 hB2 HRR
  go_wp2_with (go_at_call 30; refine DD.out.mono ?_)
  rintro e w4 ⟨rfl, hw4⟩
  subst hw4
  clear DD
  by_cases h1 : q1.1 = 0
  rotate_left
  · have h1b : (q1.1 == 0) = false := by simpa using h1
    have HFIN : Hid (SDone B S w V p g (.int .i64 r.1) r.2.1 r.2.2 (.returned (.int .i64 q1.1)) (w3.setCell ⟨p, 6, none⟩ (.bool (decide (q1.1 = 11))))) := Lib.hid (by
      rw [HRB.out, if_pos h1]
      exact ⟨rfl, Sx S w2 w3, V, cv, O, co, HR4.out, HN4.out, HM4.out, fun _ h => .inl h⟩)
    clear HR4 HM4 HN4 HRB HS HE HY HYS h1 hq1c HF HQ1 hcnt hfs hol
    go_wp2_with fail
    go_ret
    exact HFIN.out
  · have hr := HRB.out
    rw [if_neg (by rw [h1]; simp)] at hr
    have HR5 : Hid (SR B (Sx S w2 w3) (w3.setCell ⟨p, 6, none⟩ (.bool (decide (q1.1 = 11)))) p g s q1.2 V cv O co) := Lib.hid (HR4.out.same (by rw [h1]; exact up_same s hd))
    rw [h1] at HR5 HM4
    rw [show decide ((0 : Int) = 11) = false from rfl] at HR5 HM4
    rw [h1, show decide ((0 : Int) = 11) = false from rfl]
    have hs5 : w.heap.size ≤ (w3.setCell ⟨p, 6, none⟩ (.bool false)).heap.size := HM4.out.size
    generalize w3.setCell ⟨p, 6, none⟩ (.bool false) = w5 at *
    generalize hS5 : Sx S w2 w3 = S5 at *
    have c2 : w5.cell? ⟨p, 2, none⟩ = some (.int .u64 (s.last : Int)) := HR5.out.blk.cell 2 rfl
    have f2 : w5.frozen? ⟨p, 2, none⟩ = false := HR5.out.blk.free 2
    have hw := IntWalk.u64_in ((s.last : Int) + 1) (by omega)
    have HR6 : Hid (SR B S5 (w5.setCell ⟨p, 2, none⟩ (.int .u64 ((s.last : Int) + 1))) p g { s with last := s.last + 1 } q1.2 V cv O co) := Lib.hid (HR5.out.set 2 _ rfl rfl rfl rfl)
    have HM6 : Hid (Mods (fun b => S b ∨ b = p) w (w5.setCell ⟨p, 2, none⟩ (.int .u64 ((s.last : Int) + 1)))) := Lib.hid (HM4.out.setCell ⟨p, 2, none⟩ (.inl (.inr rfl)) _)
    have d0 : (w5.setCell ⟨p, 2, none⟩ (.int .u64 ((s.last : Int) + 1))).cell? ⟨p, 0, none⟩ = some (.pointer (some ⟨g, 0, none⟩)) := HR6.out.blk.cell 0 rfl
    obtain ⟨q2, hq2⟩ : ∃ q2, q2 = syncD q1.2 := ⟨_, rfl⟩
    have hsy := diskSyncC HR6.out.di (by omega)
    rw [← hq2] at hsy hr
    have SY := Lib.hid hsy
    have HRC := Lib.hid hr
    have HQ2 := Lib.hid hq2
    clear hr HRB HR4 HM4 HR5 hsy hq2 hs4
    go_wp2_with (go_at_call 32; refine SY.out.mono ?_)
    rintro e w6 ⟨rfl, hd6, m6⟩
    have hB6 : B ≤ (w5.setCell ⟨p, 2, none⟩ (.int .u64 ((s.last : Int) + 1))).heap.size := Nat.le_trans hB HM6.out.size
    have hR7 := HR6.out.disk hB6 hd6 m6
    have hdd := slotDid hR7.blk s.down rfl q2.1
    rw [hd] at hdd
    simp only [Bool.false_or] at hdd
    have DD := Lib.hid hdd
    have HR8 : Hid (SR B (Sx S5 (w5.setCell ⟨p, 2, none⟩ (.int .u64 ((s.last : Int) + 1))) w6) (w6.setCell ⟨p, 6, none⟩ (.bool (decide (q2.1 = 11)))) p g { s with last := s.last + 1, down := decide (q2.1 = 11) } q2.2 V cv O co) := Lib.hid (hR7.set 6 _ rfl rfl rfl rfl)
    have HM8 : Hid (Mods (fun b => S b ∨ b = p) w (w6.setCell ⟨p, 6, none⟩ (.bool (decide (q2.1 = 11))))) := Lib.hid ((HM6.out.trans m6 (fun i hi => by
      rcases HN4.out i hi with h | h
      · exact .inl (.inl h)
      · exact .inr h)).setCell ⟨p, 6, none⟩ (.inl (.inr rfl)) _)
    have HN8 : Hid (∀ b, Sx S5 (w5.setCell ⟨p, 2, none⟩ (.int .u64 ((s.last : Int) + 1))) w6 b → S b ∨ w.heap.size ≤ b) := Lib.hid (fun b hb => by
      rcases hb with hb | hb
      · exact HN4.out b hb
      · exact .inr (Nat.le_trans HM6.out.size hb.1))
    clear hd6 m6 hR7 hdd SY d0 c2 f2 HR6 HM6
    go_wp2_with (go_at_call 30; refine DD.out.mono ?_)
    rintro e w7 ⟨rfl, hw7⟩
    subst hw7
    clear DD
    generalize hS8 : Sx S5 (w5.setCell ⟨p, 2, none⟩ (.int .u64 ((s.last : Int) + 1))) w6 = S8 at *
    by_cases h2 : q2.1 = 0
    rotate_left
    · have h2b : (q2.1 == 0) = false := by simpa using h2
      have HFIN : Hid (SDone B S w V p g (.int .i64 r.1) r.2.1 r.2.2 (.returned (.int .i64 q2.1)) (w6.setCell ⟨p, 6, none⟩ (.bool (decide (q2.1 = 11))))) := Lib.hid (by
        rw [HRC.out, if_pos h2]
        exact ⟨rfl, S8, V, cv, O, co, HR8.out, HN8.out, HM8.out, fun _ h => .inl h⟩)
      clear HR8 HM8 HN8 HRC HS HE HY HYS h2 hq1c HF HQ1 HQ2 hcnt hfs hol hB6 HN4 hs5 hw
      go_wp2_with fail
      go_ret
      exact HFIN.out
    · have hr := HRC.out
      rw [if_neg (by rw [h2]; simp)] at hr
      rw [h2] at HR8 HM8
      rw [show decide ((0 : Int) = 11) = false from rfl] at HR8 HM8
      rw [h2, show decide ((0 : Int) = 11) = false from rfl]
      have hs8 : w.heap.size ≤ (w6.setCell ⟨p, 6, none⟩ (.bool false)).heap.size := HM8.out.size
      generalize w6.setCell ⟨p, 6, none⟩ (.bool false) = w8 at *
      have hy8 := HY.out.mods HM8.out (fun h0 b hb hc => by
        rcases hc with hc | hc
        · exact (HYS.out h0 b hb).1 hc
        · exact (HYS.out h0 b hb).2 hc)
      have CL := Lib.hid (cloneB' Y cy x w8 hy8 (by omega))
      obtain ⟨z, hz⟩ : ∃ z, z = cleanD s.old q2.2 := ⟨_, rfl⟩
      rw [← hz] at hr
      have HRD := Lib.hid hr
      have HZ := Lib.hid hz
      clear hr HRC hy8 hz hB6 hs5
      go_wp2_with (go_at_call 28; refine CL.out.mono ?_)
      rintro e w9 ⟨V', cv', rfl, ho9, hb9⟩
      have hR9 := HR8.out.below hb9
      have hB9 : B ≤ w9.heap.size := Nat.le_trans hB (Nat.le_trans hs8 hb9.size)
      have hv9 : OB w9 B V' cv' x := ho9.base_le (Nat.le_trans hB hs8)
      have hvs : ∀ b, V'.map (·.block) = some b → ¬ S8 b := fun b hb hs => by
        have h1 := (ho9.blk_in b hb).1
        have h2 := HR8.out.di.bnd b hs
        omega
      have HV9 : Hid (∀ b, V'.map (·.block) = some b → w8.heap.size ≤ b) := Lib.hid (fun b hb => (ho9.blk_in b hb).1)
      have hRa := (hR9.setVal hv9 hvs)
      have f3 : w9.frozen? ⟨p, 3, none⟩ = false := hR9.blk.free 3
      have c3 : w9.cell? ⟨p, 3, none⟩ = some (.slice V s.value.length cv) := hR9.blk.cell 3 rfl
      have f4 : (w9.setCell ⟨p, 3, none⟩ (.slice V' x.length cv')).frozen? ⟨p, 4, none⟩ = false := hRa.blk.free 4
      have c4 : (w9.setCell ⟨p, 3, none⟩ (.slice V' x.length cv')).cell? ⟨p, 4, none⟩ = some (.bool s.has) := hRa.blk.cell 4 rfl
      have HRa : Hid (SR B S8 ((w9.setCell ⟨p, 3, none⟩ (.slice V' x.length cv')).setCell ⟨p, 4, none⟩ (.bool true)) p g ⟨s.base, s.last + 1, x, true, s.old, false⟩ q2.2 V' cv' O co) := Lib.hid (hRa.set 4 _ rfl rfl rfl rfl)
      have HMa : Hid (Mods (fun b => S b ∨ b = p) w ((w9.setCell ⟨p, 3, none⟩ (.slice V' x.length cv')).setCell ⟨p, 4, none⟩ (.bool true))) := Lib.hid (((HM8.out.below hb9).setCell ⟨p, 3, none⟩ (.inl (.inr rfl)) _).setCell ⟨p, 4, none⟩ (.inl (.inr rfl)) _)
      have hq2c : q2.2.cnt ≤ 5000 := by
        rw [HQ2.out]
        have h3 := sync_cnt q1.2
        have h4 : q1.2.files.length ≤ D.files.length + 1 := by
          rw [HQ1.out]; exact change_files _ _ _
        omega
      have hcc := slotClean HRa.out (by simpa using hB9) (by simp only; omega)
      rw [← HZ.out] at hcc
      obtain ⟨s9, hs9⟩ : ∃ s9 : Sl, s9 = ⟨s.base, s.last + 1, x, true, (if (cleanL s.old q2.2).1 = 0 then [] else s.old), (false || decide (z.1 = 11))⟩ := ⟨_, rfl⟩
      simp only at hcc
      rw [← hs9] at hcc
      have HS9 := Lib.hid hs9
      have CC := Lib.hid hcc
      clear hs9
      have sa := (HMa.out).size
      clear hR9 hRa hcc ho9 hb9 hvs hv9 CL HR8 HM8
      go_wp2_with (go_at_call 27; refine CC.out.mono ?_)
      rintro e w10 ⟨rfl, Sc, Vc, cvc, Oc, coc, hRc, hNc, hMc, hVc⟩
      have HVd : Hid (∀ b, Vc.map (·.block) = some b → V.map (·.block) = some b ∨ w.heap.size ≤ b) := Lib.hid (fun b hb => by
        rcases hVc b hb with h | h
        · exact .inr (Nat.le_trans hs8 (HV9.out b h))
        · exact .inr (Nat.le_trans sa h))
      clear hVc
      have f5 : (w10.alloc (.cells #[.string ⟨f.toArray⟩] 9)).frozen? ⟨p, 5, none⟩ = false := (hRc.below ((Below.refl _ _).alloc (Nat.le_refl _) _)).blk.free 5
      have c5 : (w10.alloc (.cells #[.string ⟨f.toArray⟩] 9)).cell? ⟨p, 5, none⟩ = some (.slice Oc s9.old.length coc) := (hRc.below ((Below.refl _ _).alloc (Nat.le_refl _) _)).blk.cell 5 rfl
      have hBc : B ≤ w10.heap.size := Nat.le_trans hB (Nat.le_trans sa hMc.size)
      have HRd : Hid (SR B Sc ((w10.alloc (.cells #[.string ⟨f.toArray⟩] 9)).setCell ⟨p, 5, none⟩ (.slice (some ⟨w10.heap.size, 0, none⟩) 1 1)) p g r.2.1 z.2 Vc cvc (some ⟨w10.heap.size, 0, none⟩) 1) := Lib.hid (by
        have h1 := (hRc.below ((Below.refl _ _).alloc (Nat.le_refl _) (.cells #[.string ⟨f.toArray⟩] 9))).setOld (O' := some ⟨w10.heap.size, 0, none⟩) (co' := 1) (l := [f]) (OV.lit1 w10 hBc _ _) (fun b hb hs => by
          have h2 := hRc.di.bnd b hs
          injection hb with hb
          simp only at hb
          omega) (fun g hg => by rw [List.mem_singleton.1 hg]; exact HFL.out)
        refine h1.same ?_
        rw [HRD.out, HS9.out, HF.out]
        simp)
      have HMd : Hid (Mods (fun b => S b ∨ b = p) w ((w10.alloc (.cells #[.string ⟨f.toArray⟩] 9)).setCell ⟨p, 5, none⟩ (.slice (some ⟨w10.heap.size, 0, none⟩) 1 1))) := Lib.hid (((HMa.out.trans hMc (fun i hi => by
        rcases hi with hi | hi
        · rcases HN8.out i hi with h | h
          · exact .inl (.inl h)
          · exact .inr h
        · exact .inl (.inr hi))).alloc _).setCell ⟨p, 5, none⟩ (.inl (.inr rfl)) _)
      have HNd : Hid (∀ b, Sc b → S b ∨ w.heap.size ≤ b) := Lib.hid (fun b hb => by
        rcases hNc b hb with h | h
        · exact HN8.out b h
        · exact .inr (Nat.le_trans sa h))
      have HER : Hid (r.1 = z.1 ∧ r.2.2 = z.2) := Lib.hid (by rw [HRD.out]; exact ⟨rfl, rfl⟩)
      clear hRc hNc hMc CC HRa HMa HN8 HRD HZ HS9 HQ2 HQ1 HF HFL HS HE HY HYS h1 h2 hq1c hq2c hcnt hfs hol HN4 hs8 hB9 hw
      go_wp2_with fail
      go_ret
      exact ⟨by rw [HER.out.1]; rfl, Sc, Vc, cvc, _, 1, by rw [HER.out.2]; exact HRd.out, HNd.out, HMd.out, HVd.out⟩
end
end Go.Proofs.YtpfamdcdbjaflaaGreatDoor
