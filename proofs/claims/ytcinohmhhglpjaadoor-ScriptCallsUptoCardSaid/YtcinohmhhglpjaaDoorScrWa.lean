/- ScrWa: put together by merge.py of: ScrWa, ScrS1. -/
import Derived.Test.YtcinohmhhglpjaaDoorScrC2
import Derived.Test.YtcinohmhhglpjaaDoorPlanE
import Derived.RegionDies
import Derived.Defers
import Derived.Recover
import Derived.Laws.Pointers
/- What an act's line says (package script). -/
namespace Go.Proofs.YtcinohmhhglpjaaDoor
open Go.RowKit

theorem act_size' : (Tryd.prog.info? 35).map (·.size) = some 13 := by kernel_rfl
theorem nextYes (b N : Nat) (s : List UInt8) (t : List (List UInt8)) (w : World) (h : RdAt w b N (s :: t)) : Calls Tryd.prog 40 #[.pointer (some ⟨b, 0, none⟩)] w fun e w' => e = .returned (.string ⟨s.toArray⟩) ∧ RdAt w' b N t ∧ Mods (· = b) w w' := by
  refine (nextR b N _ w h).mono ?_
  rintro e w' (⟨x, r, hs, rfl, h1, m1⟩ | ⟨hs, _, _⟩)
  · have := rd_next hs
    injection this with e1 e2
    subst e1 e2
    exact ⟨rfl, h1, m1⟩
  · have := rd_nil hs
    cases this
theorem nextNo (b N : Nat) (w : World) (h : RdAt w b N []) : Calls Tryd.prog 40 #[.pointer (some ⟨b, 0, none⟩)] w fun e w' => e = .panicked [{ v := faultV, recovered := false }] ∧ Mods (· = b) w w' := by
  refine (nextR b N _ w h).mono ?_
  rintro e w' (⟨x, r, hs, rfl, h1, m1⟩ | ⟨hs, rfl, m1⟩)
  · have := rd_next hs
    cases this
  · exact ⟨rfl, m1⟩
def wordBs : List ByteArray := (List.range 19).map fun n => ⟨(kindWord n).toArray⟩
def idxK (s : List UInt8) : Int := Lib.idxOfS wordBs ⟨s.toArray⟩
theorem wordBs_at {j : Nat} (h : j < 19) : wordBs.getD j ByteArray.empty = ⟨(kindWord j).toArray⟩ := by simp [wordBs, List.getD, h]
theorem kindWord_inj : ∀ i j, i < 19 → j < 19 → kindWord i = kindWord j → i = j := by
  have : ∀ i : Fin 19, ∀ j : Fin 19, kindWord i.1 = kindWord j.1 → i.1 = j.1 := by decide
  exact fun i j hi hj => this ⟨i, hi⟩ ⟨j, hj⟩
theorem bs_eq {a b : List UInt8} (h : (⟨a.toArray⟩ : ByteArray) = ⟨b.toArray⟩) : a = b := by
  injection h with h
  simpa using congrArg Array.toList h
theorem idxK_at {n : Nat} (h : n < 19) : idxK (kindWord n) = n := by
  have := Lib.idxFromS_hit ⟨(kindWord n).toArray⟩ wordBs n 0 (by simp [wordBs, h]) (wordBs_at h) (fun j hj e => by
    rw [wordBs_at (by omega)] at e
    have := kindWord_inj j n (by omega) h (bs_eq e)
    omega)
  unfold idxK Lib.idxOfS
  rw [this]
  simp
theorem idxK_miss {s : List UInt8} (h : ∀ n, n < 19 → kindWord n ≠ s) : idxK s = -1 :=
  Lib.idxFromS_miss _ wordBs 0 (fun j hj e => by
    have hj' : j < 19 := by simpa [wordBs] using hj
    rw [wordBs_at hj'] at e
    exact h j hj' (bs_eq e))
theorem idxK_some {s : List UInt8} {k : Int} (h : kindOf s = some k) : idxK s = k := by
  obtain ⟨h1, h2, h3⟩ := kindOf_some h
  rw [← h3, idxK_at (by omega)]
  omega
theorem idxK_none {s : List UInt8} (h : kindOf s = none) : idxK s ≤ 0 := by
  by_cases hx : ∃ n, n < 19 ∧ kindWord n = s
  · obtain ⟨n, hn, rfl⟩ := hx
    rw [idxK_at hn]
    rcases Nat.eq_zero_or_pos n with rfl | h0
    · simp
    · rw [kindOf_word n h0 (by omega)] at h
      cases h
  · rw [idxK_miss (fun n hn e => hx ⟨n, hn, e⟩)]
    decide
theorem idxW (s : List UInt8) (B : Nat) (w : World) (hE : EnvR B w) : Calls Tryd.prog 39 #[.slice (some ⟨0, 0, none⟩) 19 19, .string ⟨s.toArray⟩] w fun e w' => e = .returned (.int .i64 (idxK s)) ∧ w' = w := by
  refine (Tryd.slices_Index_string 0 0 19 19 wordBs ⟨s.toArray⟩ w (by simp [wordBs]) (by decide) (fun j hj => ?_)).mono ?_
  · have hj' : j < 19 := by simpa [wordBs] using hj
    rw [wordBs_at hj', Nat.zero_add]
    exact words_cell (hE.env.words w (Below.refl _ _)) j hj'
  · rintro e w' ⟨rfl, rfl⟩
    exact ⟨by unfold idxK; rw [List.take_of_length_le (by simp [wordBs])], rfl⟩

set_option maxRecDepth 20000 in
set_option maxHeartbeats 4000000 in
theorem whatAct (B b N : Nat) (L : List (List UInt8)) (w : World) (h : RdAt w b N L) (hE : EnvR B w) (hb : B ≤ b) (hB : B ≤ w.heap.size) (hN : N ≤ w.heap.size) :
    Calls Tryd.prog 38 #[.pointer (some ⟨b, 0, none⟩)] w (Gives (rdAct L) (fun a => .agg a.cells.toArray) b N w) := by
  have hgb : w.heap.size ≠ b := by have := h.lt; omega
  have hal : Below w.heap.size w (w.alloc (.cells #[.int .i64 0, .int .i64 0, .int .i64 0, .int .i64 0, .int .u64 0, .int .u64 0, .int .u64 0, .int .u64 0, .int .i64 0, .string ⟨#[]⟩, .int .i64 0, .int .i64 0, .int .u64 0] 35)) := (Below.refl _ _).alloc (Nat.le_refl _) _
  have HZ0 := Lib.hid (Blk.new w #[.int .i64 0, .int .i64 0, .int .i64 0, .int .i64 0, .int .u64 0, .int .u64 0, .int .u64 0, .int .u64 0, .int .i64 0, .string ⟨#[]⟩, .int .i64 0, .int .i64 0, .int .u64 0] 35)
  have H0 := Lib.hid (h.below hal)
  have M0 := Lib.hid (Mods.of_below (S := (· = b)) hal)
  have HE0 := Lib.hid (hE.below (hal.mono hB))
  cases L with
  | nil =>
    have C := Lib.hid (nextNo b N _ (H0.out.below (Below.refl _ _).drew))
    have MD := Lib.hid (M0.out.below (Below.refl _ _).drew)
    clear h hE hal
    go_enter Tryd.func38, Tryd.ntmps38
    go_wp2_with fail
    go_region_dies
    all_goals
      refine C.out.mono ?_
      rintro e w1 ⟨rfl, m1⟩
      exact ⟨rfl, gives_no rfl (MD.out.then m1)⟩
  | cons s t =>
    obtain ⟨oc, hoc⟩ : ∃ oc, oc = rdAct (s :: t) := ⟨_, rfl⟩
    rw [← hoc]
    unfold rdAct at hoc
    have R0 := Lib.hid hoc
    clear hoc h hE hal
    obtain ⟨w0, hw0⟩ : ∃ w0, w0 = (w.alloc (.cells #[.int .i64 0, .int .i64 0, .int .i64 0, .int .i64 0, .int .u64 0, .int .u64 0, .int .u64 0, .int .u64 0, .int .i64 0, .string ⟨#[]⟩, .int .i64 0, .int .i64 0, .int .u64 0] 35)) := ⟨_, rfl⟩
    rw [← hw0] at H0 M0 HE0 HZ0
    go_enter Tryd.func38, Tryd.ntmps38
    go_wp2_with fail
    rw [← hw0]
    clear hw0
    refine wp_region_planE_gen (by kernel_rfl) [(0, none), (1, none), (2, some [1]), (3, some [0]), (4, none)] (by kernel_rfl) (by kernel_rfl) (by decide) ?_
    intro wq hwq
    have hq : Below w0.heap.size w0 wq := by rw [hwq]; exact (Below.refl _ _).drew
    have H1 := Lib.hid (H0.out.below hq)
    have M1 := Lib.hid (M0.out.below hq)
    have HE1 := Lib.hid (HE0.out.below (hq.mono (Nat.le_trans hB M0.out.size)))
    have HZ1 := Lib.hid (HZ0.out.kept hq)
    clear hwq hq H0 M0 HE0 HZ0
    iterate 2 (refine planE_pure (v := ?_) rfl (by rfl) (fun w' => ?_) ?_; rotate_left; (focus (simp only [List.getElem_toArray, List.getElem_cons_succ, List.getElem_cons_zero]; go_simp; first | with_reducible rfl | (simp (disch := omega) only [if_pos, if_neg, dif_pos, Result.andThen_ok]; try with_reducible rfl) | skip)); try simp only [List.getElem_toArray, List.getElem_cons_succ, List.getElem_cons_zero, Act.put, List.setIfInBounds_toArray, List.set_cons_zero, List.set_cons_succ])
    refine planE_eff rfl (by rfl) (fun K hK => ?_)
    go_simp
    refine (nextYes b N s t _ H1.out).mono ?_
    rintro e w1 ⟨rfl, h1, m1⟩
    have H2 := Lib.hid h1
    have M2 := Lib.hid (M1.out.then m1)
    have HE2 := Lib.hid (HE1.out.below (m1.low hb (Nat.le_trans hB M1.out.size)))
    have HZ2 := Lib.hid (HZ1.out.mods m1 hgb)
    clear h1 m1 H1 M1 HE1 HZ1
    refine hK _ _ (by simp [owed, left] <;> (and_intros <;> first | trivial | assumption)) ?_
    clear hK K
    try simp only [List.getElem_toArray, List.getElem_cons_succ, List.getElem_cons_zero, Act.put, List.setIfInBounds_toArray, List.set_cons_zero, List.set_cons_succ]
    refine planE_eff rfl (by rfl) (fun K hK => ?_)
    go_simp
    refine (idxW s B _ HE2.out).mono ?_
    rintro e w2 ⟨rfl, rfl⟩
    refine hK _ _ (by simp [owed, left] <;> (and_intros <;> first | trivial | assumption)) ?_
    clear hK K
    try simp only [List.getElem_toArray, List.getElem_cons_succ, List.getElem_cons_zero, Act.put, List.setIfInBounds_toArray, List.set_cons_zero, List.set_cons_succ]
    iterate 1 (refine planE_pure (v := ?_) rfl (by rfl) (fun w' => ?_) ?_; rotate_left; (focus (simp only [List.getElem_toArray, List.getElem_cons_succ, List.getElem_cons_zero]; go_simp; first | with_reducible rfl | (simp (disch := omega) only [if_pos, if_neg, dif_pos, Result.andThen_ok]; try with_reducible rfl) | skip)); try simp only [List.getElem_toArray, List.getElem_cons_succ, List.getElem_cons_zero, Act.put, List.setIfInBounds_toArray, List.set_cons_zero, List.set_cons_succ])
    refine planE_end ?_
    cases hk : kindOf s with
    | none =>
      have HN := Lib.hid (bind_gone R0.out (rd_none hk t))
      have hi : decide (0 < idxK s) = false := by have := idxK_none hk; simp; omega
      clear hk
      go_wp2_with (go_at_call 41; with_reducible refine (needF _ _).mono ?_)
      rintro e w3 ⟨rfl, rfl⟩
      go_wp2_with fail
      exact ⟨rfl, gives_no HN.out M2.out⟩
    | some k =>
      have R1 := Lib.hid (bind_goes R0.out (rd_cons hk t))
      have hks := kindOf_some hk
      have hik : idxK s = k := idxK_some hk
      obtain ⟨hk1, hk2, _⟩ := hks
      have hi : decide (0 < k) = true := by simp; omega
      clear hk R0
      rw [hik]
      clear hik
      go_wp2_with (go_at_call 41; with_reducible refine (needT _ _).mono ?_)
      rintro e w3 ⟨rfl, rfl⟩
      have H0 := Lib.hid H2.out
      have M0 := Lib.hid M2.out
      have HE0 := Lib.hid HE2.out
      have HZ0 := Lib.hid HZ2.out
      have R0 := Lib.hid R1.out
      clear H2 M2 HE2 HZ2 R1
      go_wp2_with (go_at_call 42; refine (intR B b N t _ H0.out HE0.out hb (Nat.le_trans hB M0.out.size)).mono ?_)
      rintro e w1 (⟨x1, L1, hs, rfl, h1, m1⟩ | ⟨hs, rfl, m1⟩)
      rotate_left
      · have HN := Lib.hid (bind_gone R0.out hs)
        have MN := Lib.hid (M0.out.then m1)
        clear hs m1
        go_wp2_with fail
        exact ⟨rfl, gives_no HN.out MN.out⟩
      obtain ⟨s0, hv0⟩ := rd_val hs
      have V0 := Lib.hid (pint_some hv0)
      have R1 := Lib.hid (bind_goes R0.out hs)
      have H1 := Lib.hid h1
      have M1 := Lib.hid (M0.out.then m1)
      have HE1 := Lib.hid (HE0.out.below (m1.low hb (Nat.le_trans hB M0.out.size)))
      have HZ1 := Lib.hid (HZ0.out.mods m1 hgb)
      clear hs h1 m1 hv0 H0 M0 HE0 HZ0 R0
      go_wp2_with (go_at_call 42; refine (intR B b N L1 _ H1.out HE1.out hb (Nat.le_trans hB M1.out.size)).mono ?_)
      rintro e w2 (⟨x2, L2, hs, rfl, h1, m1⟩ | ⟨hs, rfl, m1⟩)
      rotate_left
      · have HN := Lib.hid (bind_gone R1.out hs)
        have MN := Lib.hid (M1.out.then m1)
        clear hs m1
        go_wp2_with fail
        exact ⟨rfl, gives_no HN.out MN.out⟩
      obtain ⟨s1, hv1⟩ := rd_val hs
      have V1 := Lib.hid (pint_some hv1)
      have R2 := Lib.hid (bind_goes R1.out hs)
      have H2 := Lib.hid h1
      have M2 := Lib.hid (M1.out.then m1)
      have HE2 := Lib.hid (HE1.out.below (m1.low hb (Nat.le_trans hB M1.out.size)))
      have HZ2 := Lib.hid (HZ1.out.mods m1 hgb)
      clear hs h1 m1 hv1 H1 M1 HE1 HZ1 R1
      go_wp2_with (go_at_call 42; refine (intR B b N L2 _ H2.out HE2.out hb (Nat.le_trans hB M2.out.size)).mono ?_)
      rintro e w3 (⟨x3, L3, hs, rfl, h1, m1⟩ | ⟨hs, rfl, m1⟩)
      rotate_left
      · have HN := Lib.hid (bind_gone R2.out hs)
        have MN := Lib.hid (M2.out.then m1)
        clear hs m1
        go_wp2_with fail
        exact ⟨rfl, gives_no HN.out MN.out⟩
      obtain ⟨s2, hv2⟩ := rd_val hs
      have V2 := Lib.hid (pint_some hv2)
      have R3 := Lib.hid (bind_goes R2.out hs)
      have H3 := Lib.hid h1
      have M3 := Lib.hid (M2.out.then m1)
      have HE3 := Lib.hid (HE2.out.below (m1.low hb (Nat.le_trans hB M2.out.size)))
      have HZ3 := Lib.hid (HZ2.out.mods m1 hgb)
      clear hs h1 m1 hv2 H2 M2 HE2 HZ2 R2
      go_wp2_with (go_at_call 43; refine (numR B b N L3 _ H3.out HE3.out hb (Nat.le_trans hB M3.out.size)).mono ?_)
      rintro e w4 (⟨x4, L4, hs, rfl, h1, m1⟩ | ⟨hs, rfl, m1⟩)
      rotate_left
      · have HN := Lib.hid (bind_gone R3.out hs)
        have MN := Lib.hid (M3.out.then m1)
        clear hs m1
        go_wp2_with fail
        exact ⟨rfl, gives_no HN.out MN.out⟩
      obtain ⟨s3, hv3⟩ := rd_val hs
      have V3 := Lib.hid (pnum_some hv3)
      have R4 := Lib.hid (bind_goes R3.out hs)
      have H4 := Lib.hid h1
      have M4 := Lib.hid (M3.out.then m1)
      have HE4 := Lib.hid (HE3.out.below (m1.low hb (Nat.le_trans hB M3.out.size)))
      have HZ4 := Lib.hid (HZ3.out.mods m1 hgb)
      clear hs h1 m1 hv3 H3 M3 HE3 HZ3 R3
      go_wp2_with (go_at_call 43; refine (numR B b N L4 _ H4.out HE4.out hb (Nat.le_trans hB M4.out.size)).mono ?_)
      rintro e w5 (⟨x5, L5, hs, rfl, h1, m1⟩ | ⟨hs, rfl, m1⟩)
      rotate_left
      · have HN := Lib.hid (bind_gone R4.out hs)
        have MN := Lib.hid (M4.out.then m1)
        clear hs m1
        go_wp2_with fail
        exact ⟨rfl, gives_no HN.out MN.out⟩
      obtain ⟨s4, hv4⟩ := rd_val hs
      have V4 := Lib.hid (pnum_some hv4)
      have R5 := Lib.hid (bind_goes R4.out hs)
      have H5 := Lib.hid h1
      have M5 := Lib.hid (M4.out.then m1)
      have HE5 := Lib.hid (HE4.out.below (m1.low hb (Nat.le_trans hB M4.out.size)))
      have HZ5 := Lib.hid (HZ4.out.mods m1 hgb)
      clear hs h1 m1 hv4 H4 M4 HE4 HZ4 R4
      go_wp2_with (go_at_call 44; refine (commandR B b N L5 _ H5.out HE5.out hb (Nat.le_trans hB M5.out.size) (Nat.le_trans hN M5.out.size)).mono ?_)
      rintro e w6 (⟨x6, L6, hs, rfl, h1, m1⟩ | ⟨hs, rfl, m1⟩)
      rotate_left
      · have HN := Lib.hid (bind_gone R5.out hs)
        have MN := Lib.hid (M5.out.then m1)
        clear hs m1
        go_wp2_with fail
        exact ⟨rfl, gives_no HN.out MN.out⟩
      have HY : Hid (oc = some (⟨k, x1, x2, x3, x4, x5, x6⟩, L6)) := Lib.hid (bind_goes R5.out hs)
      have H6 := Lib.hid h1
      have M6 := Lib.hid (M5.out.then m1)
      have HZ6 := Lib.hid (HZ5.out.mods m1 hgb)
      clear hs h1 m1 H5 M5 HE5 HZ5 R5
      have hbr : Hid (Blk (w6.setRow w.heap.size #[.int .i64 k, .int .i64 x1, .int .i64 x2, .int .i64 x3, .int .u64 x4, .int .u64 x5, .int .u64 x6.ses, .int .u64 x6.seq, .int .i64 x6.op, .string ⟨x6.key.toArray⟩, .int .i64 x6.amount, .int .i64 x6.span, .int .u64 x6.lease]) w.heap.size 35 #[.int .i64 k, .int .i64 x1, .int .i64 x2, .int .i64 x3, .int .u64 x4, .int .u64 x5, .int .u64 x6.ses, .int .u64 x6.seq, .int .i64 x6.op, .string ⟨x6.key.toArray⟩, .int .i64 x6.amount, .int .i64 x6.span, .int .u64 x6.lease]) := Lib.hid (HZ6.out.setRow _)
      have H10 : Hid (RdAt (w6.setRow w.heap.size #[.int .i64 k, .int .i64 x1, .int .i64 x2, .int .i64 x3, .int .u64 x4, .int .u64 x5, .int .u64 x6.ses, .int .u64 x6.seq, .int .i64 x6.op, .string ⟨x6.key.toArray⟩, .int .i64 x6.amount, .int .i64 x6.span, .int .u64 x6.lease]) b N L6) := Lib.hid (H6.out.setRow hgb hN _)
      have M10 := Lib.hid (M6.out.setRow w.heap.size (.inr (Nat.le_refl _)) #[.int .i64 k, .int .i64 x1, .int .i64 x2, .int .i64 x3, .int .u64 x4, .int .u64 x5, .int .u64 x6.ses, .int .u64 x6.seq, .int .i64 x6.op, .string ⟨x6.key.toArray⟩, .int .i64 x6.amount, .int .i64 x6.span, .int .u64 x6.lease])
      unfold Cm.cells
      go_wp2_with (refine wpList_store_row rfl 35 (.tmp 2) (.tmp 25) rfl w.heap.size #[.int .i64 k, .int .i64 x1, .int .i64 x2, .int .i64 x3, .int .u64 x4, .int .u64 x5, .int .u64 x6.ses, .int .u64 x6.seq, .int .i64 x6.op, .string ⟨x6.key.toArray⟩, .int .i64 x6.amount, .int .i64 x6.span, .int .u64 x6.lease] rfl rfl _ _ HZ6.out act_size' rfl (by simp [Value.oneCell']) ?_)
      have y0 := hbr.out.cell 0 rfl
      have y1 := hbr.out.cell 1 rfl
      have y2 := hbr.out.cell 2 rfl
      have y3 := hbr.out.cell 3 rfl
      have y4 := hbr.out.cell 4 rfl
      have y5 := hbr.out.cell 5 rfl
      have y6 := hbr.out.cell 6 rfl
      have y7 := hbr.out.cell 7 rfl
      have y8 := hbr.out.cell 8 rfl
      have y9 := hbr.out.cell 9 rfl
      have y10 := hbr.out.cell 10 rfl
      have y11 := hbr.out.cell 11 rfl
      have y12 := hbr.out.cell 12 rfl
      refine bodyPost_ret (v := .agg #[.int .i64 k, .int .i64 x1, .int .i64 x2, .int .i64 x3, .int .u64 x4, .int .u64 x5, .int .u64 x6.ses, .int .u64 x6.seq, .int .i64 x6.op, .string ⟨x6.key.toArray⟩, .int .i64 x6.amount, .int .i64 x6.span, .int .u64 x6.lease]) (by simp [results, Tryd.results38, go_sem, y0, y1, y2, y3, y4, y5, y6, y7, y8, y9, y10, y11, y12]) rfl ?_
      exact gives_yes HY.out rfl H10.out M10.out
end Go.Proofs.YtcinohmhhglpjaaDoor
/- strings.Split at a blank. -/
namespace Go.Proofs.YtcinohmhhglpjaaDoor
open Go.RowKit

theorem split_parts (s : List UInt8) : Lib.splitB ⟨#[32]⟩ 0 (Lib.countB ⟨s.toArray⟩ ⟨#[32]⟩) ⟨s.toArray⟩ = (parts 32 s).map (fun l => ⟨l.toArray⟩) ∧ Lib.countB ⟨s.toArray⟩ ⟨#[32]⟩ + 1 = (parts 32 s).length := by
  have hc : Lib.countB ⟨s.toArray⟩ ⟨#[32]⟩ = Lib.count s [32] := rfl
  obtain ⟨h1, h2⟩ := splitK_parts 32 s.length s (Nat.le_refl _)
  refine ⟨?_, by rw [hc, h2, parts_count]⟩
  have h := Lib.splitB_data ⟨#[32]⟩ 0 (Lib.countB ⟨s.toArray⟩ ⟨#[32]⟩) ⟨s.toArray⟩
  have h' : (Lib.splitB ⟨#[32]⟩ 0 (Lib.countB ⟨s.toArray⟩ ⟨#[32]⟩) ⟨s.toArray⟩).map (·.data.toList) = parts 32 s := by rw [h, hc]; exact h1
  rw [← h', List.map_map]
  conv => lhs; rw [← List.map_id (Lib.splitB ⟨#[32]⟩ 0 (Lib.countB ⟨s.toArray⟩ ⟨#[32]⟩) ⟨s.toArray⟩)]
  rfl
theorem splitC (s : List UInt8) (B : Nat) (w : World) (hs : s.length < 4294967281) (hE : EnvR B w) :
    Calls Tryd.prog 63 #[.string ⟨s.toArray⟩, .string ⟨#[32]⟩] w fun e w' => e = .returned (.slice (some ⟨w.heap.size, 0, none⟩) (parts 32 s).length (parts 32 s).length) ∧ w' = w.alloc (.cells (svals (parts 32 s)).toArray 9) := by
  obtain ⟨m, hm⟩ := hE.max
  obtain ⟨h1, h2⟩ := split_parts s
  refine (Tryd.strings_Split ⟨s.toArray⟩ ⟨#[32]⟩ m w (by simpa [ByteArray.size] using hs) (hm w (Below.refl _ _)) (by decide)).mono ?_
  rintro e w' ⟨rfl, rfl⟩
  rw [h1, h2, List.map_map]
  exact ⟨rfl, rfl⟩
end Go.Proofs.YtcinohmhhglpjaaDoor
