/- Walk of ScriptBack (printed by gen_wscrb.py). -/
import Derived.Test.YtcinohmhhglpjaaDoorWScrB0
namespace Go.Proofs.YtcinohmhhglpjaaDoor
open Go.RowKit

set_option maxRecDepth 20000 in
set_option maxHeartbeats 8000000 in
theorem walkBackGood (zs : List Int) (h10 : zs.length = 10) (hz : ∀ z ∈ zs, -9223372036854775808 ≤ z ∧ z ≤ 9223372036854775807) (A : Option Addr) (c : Nat) (xs : List Ap) (a : Ap) (haw : a.wf) (n : Nat) (hcu : n < 65536) (w : World) (hn : xs.length * 112 ≤ 140737488351232) (hxc : xs.length ≤ c) (hcm : c ≤ 9223372036854775807) (ha : ∀ a ∈ xs, a.wf) (hr : RS w A 13 (xs.map Ap.cells)) (hE : EnvR w.heap.size w) (h : (scriptSays zs xs).2 = 0) :
    Calls Tryd.prog 8 #[.agg (zs.map (Value.int .i64)).toArray, .slice A xs.length c, .agg a.cells.toArray, .int .u16 (n : Int)] w (Yes w) := by
  obtain ⟨i0, hi, hz0, hz1, hz2⟩ := info_parts act_info
  obtain ⟨hcr1, hcr2⟩ := cells_rows xs
  have HCR1 := Lib.hid hcr1
  have HCR2 := Lib.hid hcr2
  have CS := Lib.hid (fun A' c' (k : List Ap) (hk : k = xs) w' hr' hE' => hk ▸ scrScript zs h10 hz A' c' k (by subst hk; omega) (hk ▸ ha) w' hr' hE')
  have CR := Lib.hid (refActA a haw)
  have HE := Lib.hid hE
  have HR := Lib.hid hr
  obtain ⟨htx, htl, hok, hxl⟩ := back_ok h10 hz ha h
  have HRD := Lib.hid (back_read h10 hz hok htx htl)
  have HMORE := Lib.hid (fun ho hl => back_more (a := a) h10 hz hok haw ho htx hl)
  have HCUT := Lib.hid (fun k hk he => back_cut (k := k) h10 hz hok htx htl hk he)
  have HTORN := Lib.hid (fun k hk he => back_torn (t := (scriptSays zs xs).1) htl (k := k) hk he)
  have HLL := Lib.hid (Ap.line_len haw)
  have HEA := Lib.hid (act_eq a)
  unfold ScriptE at CS
  generalize (scriptSays zs xs).1 = tx at *
  generalize (scriptSays zs xs).2 = er at *
  subst h
  generalize hao : a.ok = ao at *
  generalize hln : a.line = ln at *
  clear htx hok hao hln
  obtain ⟨z0, z1, z2, z3, z4, z5, z6, z7, z8, z9, rfl⟩ := ten h10
  obtain ⟨kind, ka, kb, kn, kdraw, kmask, ⟨ses, seq, op, key, amount, span, lease⟩⟩ := a
  clear h10 hz ha hr hE hcr1 hcr2 haw
  unfold Ap.cells Cm.cells at *
  simp only [List.cons_append, List.nil_append] at *
  simp only [List.map_cons, List.map_nil] at *
  obtain ⟨w0, hw0⟩ : ∃ w0, w0 = (w.alloc (.cells #[.int .i64 z0, .int .i64 z1, .int .i64 z2, .int .i64 z3, .int .i64 z4, .int .i64 z5, .int .i64 z6, .int .i64 z7, .int .i64 z8, .int .i64 z9] 23)).alloc (.cells #[.int .i64 kind, .int .i64 ka, .int .i64 kb, .int .i64 kn, .int .u64 kdraw, .int .u64 kmask, .int .u64 ses, .int .u64 seq, .int .i64 op, .string ⟨key.toArray⟩, .int .i64 amount, .int .i64 span, .int .u64 lease] 35) := ⟨_, rfl⟩
  have HB0 : Hid (Below w.heap.size w w0) := Lib.hid (by rw [hw0]; exact ((Below.refl _ _).alloc (Nat.le_refl _) _).alloc (by simp) _)
  have HS0 : Hid (Blk w0 w.heap.size 23 #[.int .i64 z0, .int .i64 z1, .int .i64 z2, .int .i64 z3, .int .i64 z4, .int .i64 z5, .int .i64 z6, .int .i64 z7, .int .i64 z8, .int .i64 z9]) := Lib.hid (by rw [hw0]; exact (Blk.new w #[.int .i64 z0, .int .i64 z1, .int .i64 z2, .int .i64 z3, .int .i64 z4, .int .i64 z5, .int .i64 z6, .int .i64 z7, .int .i64 z8, .int .i64 z9] 23).kept ((Below.refl _ _).alloc (Nat.le_refl _) _))
  have HA0 : Hid (Blk w0 (w.heap.size + 1) 35 #[.int .i64 kind, .int .i64 ka, .int .i64 kb, .int .i64 kn, .int .u64 kdraw, .int .u64 kmask, .int .u64 ses, .int .u64 seq, .int .i64 op, .string ⟨key.toArray⟩, .int .i64 amount, .int .i64 span, .int .u64 lease]) := Lib.hid (by
    rw [hw0]
    have := Blk.new (w.alloc (.cells #[.int .i64 z0, .int .i64 z1, .int .i64 z2, .int .i64 z3, .int .i64 z4, .int .i64 z5, .int .i64 z6, .int .i64 z7, .int .i64 z8, .int .i64 z9] 23)) #[.int .i64 kind, .int .i64 ka, .int .i64 kb, .int .i64 kn, .int .u64 kdraw, .int .u64 kmask, .int .u64 ses, .int .u64 seq, .int .i64 op, .string ⟨key.toArray⟩, .int .i64 amount, .int .i64 span, .int .u64 lease] 35
    rw [show (w.alloc (.cells #[.int .i64 z0, .int .i64 z1, .int .i64 z2, .int .i64 z3, .int .i64 z4, .int .i64 z5, .int .i64 z6, .int .i64 z7, .int .i64 z8, .int .i64 z9] 23)).heap.size = w.heap.size + 1 from by simp] at this
    exact this)
  go_enter Tryd.func8, Tryd.ntmps8
  go_wp2_with fail
  rw [← hw0]
  clear hw0
  refine wp_region_planE_gen (by kernel_rfl) [(0, none), (2, none), (1, some []), (3, some [2]), (4, some [0]), (5, none), (6, none), (7, none), (8, none), (9, none)] (by kernel_rfl) (by kernel_rfl) (by decide) ?_
  intro wq hwq
  have hq0 : Below w0.heap.size w0 wq := by rw [hwq]; exact (Below.refl _ _).drew
  have HBQ := Lib.hid (HB0.out.trans (hq0.mono HB0.out.size))
  have HSQ := Lib.hid (HS0.out.kept hq0)
  have HAQ := Lib.hid (HA0.out.kept hq0)
  clear hwq hq0 HB0 HS0 HA0
  have s0 := HSQ.out.cell 0 rfl; have s1 := HSQ.out.cell 1 rfl; have s2 := HSQ.out.cell 2 rfl; have s3 := HSQ.out.cell 3 rfl; have s4 := HSQ.out.cell 4 rfl; have s5 := HSQ.out.cell 5 rfl; have s6 := HSQ.out.cell 6 rfl; have s7 := HSQ.out.cell 7 rfl; have s8 := HSQ.out.cell 8 rfl; have s9 := HSQ.out.cell 9 rfl
  refine planE_cells (v := ?_) [(⟨w.heap.size, 0, none⟩, .int .i64 z0), (⟨w.heap.size, 1, none⟩, .int .i64 z1), (⟨w.heap.size, 2, none⟩, .int .i64 z2), (⟨w.heap.size, 3, none⟩, .int .i64 z3), (⟨w.heap.size, 4, none⟩, .int .i64 z4), (⟨w.heap.size, 5, none⟩, .int .i64 z5), (⟨w.heap.size, 6, none⟩, .int .i64 z6), (⟨w.heap.size, 7, none⟩, .int .i64 z7), (⟨w.heap.size, 8, none⟩, .int .i64 z8), (⟨w.heap.size, 9, none⟩, .int .i64 z9)] (by simp; and_intros <;> assumption) rfl (by rfl) (fun w' hw' => ?_) ?_; rotate_left; (focus (simp only [List.forall_mem_cons, List.not_mem_nil, false_imp_iff, implies_true, and_true] at hw'; simp only [List.getElem_toArray, List.getElem_cons_succ, List.getElem_cons_zero]; go_simp; first | with_reducible rfl | (simp (disch := omega) only [if_pos, if_neg, dif_pos, Result.andThen_ok]; try with_reducible rfl) | skip)); try simp only [List.getElem_toArray, List.getElem_cons_succ, List.getElem_cons_zero, Act.put, List.setIfInBounds_toArray, List.set_cons_zero, List.set_cons_succ]
  iterate 1 (refine planE_pure (v := ?_) rfl (by rfl) (fun w' => ?_) ?_; rotate_left; (focus (simp only [List.getElem_toArray, List.getElem_cons_succ, List.getElem_cons_zero]; go_simp; first | with_reducible rfl | (simp (disch := omega) only [if_pos, if_neg, dif_pos, Result.andThen_ok]; try with_reducible rfl) | skip)); try simp only [List.getElem_toArray, List.getElem_cons_succ, List.getElem_cons_zero, Act.put, List.setIfInBounds_toArray, List.set_cons_zero, List.set_cons_succ])
  refine planE_eff rfl (by rfl) (fun K hK => ?_)
  go_simp
  have hq1 : Below wq.heap.size wq (wq.alloc (.cells #[] 35)) := (Below.refl _ _).alloc (Nat.le_refl _) _
  have HB1 := Lib.hid (HBQ.out.trans (hq1.mono HBQ.out.size))
  have HS1 := Lib.hid (HSQ.out.kept hq1)
  have HA1 := Lib.hid (HAQ.out.kept hq1)
  have HR1 := Lib.hid (HR.out.below HB1.out)
  have hne := HSQ.out.lt
  have hne2 := HAQ.out.lt
  have HO1 := Lib.hid (OR.made0 wq (base := w.heap.size) 35 13 HBQ.out.size)
  have hbw := HBQ.out.size
  clear hq1 HBQ HSQ HAQ
  clear s0 s1 s2 s3 s4 s5 s6 s7 s8 s9
  have s0 := HS1.out.cell 0 rfl; have s1 := HS1.out.cell 1 rfl; have s2 := HS1.out.cell 2 rfl; have s3 := HS1.out.cell 3 rfl; have s4 := HS1.out.cell 4 rfl; have s5 := HS1.out.cell 5 rfl; have s6 := HS1.out.cell 6 rfl; have s7 := HS1.out.cell 7 rfl; have s8 := HS1.out.cell 8 rfl; have s9 := HS1.out.cell 9 rfl
  refine hK _ _ (by simp [owed, left] <;> (and_intros <;> first | trivial | assumption)) ?_
  clear hK K
  try simp only [List.getElem_toArray, List.getElem_cons_succ, List.getElem_cons_zero, Act.put, List.setIfInBounds_toArray, List.set_cons_zero, List.set_cons_succ]
  refine planE_eff rfl (by rfl) (fun K hK => ?_)
  refine op_appendS _ (.tmp 28) (.tmp 29) 24 35 (by rfl) Tryd.underlying24 hi hz0 hz1 hz2 rfl (by decide) w.heap.size (some ⟨wq.heap.size, 0, none⟩) A 0 c [] (xs.map Ap.cells) (by rfl) ?v1 HO1.out HR1.out HCR1.out HCR2.out (by simp; omega) (by simp; omega) HB1.out.size ?_
  case v1 => rw [List.length_map]; rfl
  intro ys A' c' w2 hk _ _ HO2 hg2 _
  have ey : ys = xs.map Ap.cells := by rw [hk.out]; rfl
  subst ey
  rw [List.length_map]
  have HB2 := Lib.hid (HB1.out.grown hg2 HB1.out.size (fun k hk => by simp at hk; omega))
  have HS2 := Lib.hid (HS1.out.grown hg2 (by simp; omega))
  have HA2 := Lib.hid (HA1.out.grown hg2 (by simp; omega))
  have HR2 := Lib.hid HO2.rs
  have HE2 := Lib.hid ((HE.out.below HB2.out).up HB2.out.size)
  clear hg2 HO2 HO1 HB1 HS1 HA1 HR1 hk
  clear s0 s1 s2 s3 s4 s5 s6 s7 s8 s9
  have s0 := HS2.out.cell 0 rfl; have s1 := HS2.out.cell 1 rfl; have s2 := HS2.out.cell 2 rfl; have s3 := HS2.out.cell 3 rfl; have s4 := HS2.out.cell 4 rfl; have s5 := HS2.out.cell 5 rfl; have s6 := HS2.out.cell 6 rfl; have s7 := HS2.out.cell 7 rfl; have s8 := HS2.out.cell 8 rfl; have s9 := HS2.out.cell 9 rfl
  refine hK _ _ (by simp [owed, left] <;> (and_intros <;> first | trivial | assumption)) ?_
  clear hK K
  try simp only [List.getElem_toArray, List.getElem_cons_succ, List.getElem_cons_zero, Act.put, List.setIfInBounds_toArray, List.set_cons_zero, List.set_cons_succ]
  refine planE_eff rfl (by rfl) (fun K hK => ?_)
  go_simp
  refine (CS.out A' c' xs rfl _ HR2.out HE2.out.env).mono ?_
  rintro e w3 ⟨rfl, hb3⟩
  have HB3 := Lib.hid (HB2.out.trans (hb3.mono HB2.out.size))
  have HS3 := Lib.hid (HS2.out.kept hb3)
  have HA3 := Lib.hid (HA2.out.kept hb3)
  clear hb3 HB2 HS2 HA2 HR2 HE2
  clear s0 s1 s2 s3 s4 s5 s6 s7 s8 s9
  refine hK _ _ (by simp [owed, left] <;> (and_intros <;> first | trivial | assumption)) ?_
  clear hK K
  try simp only [List.getElem_toArray, List.getElem_cons_succ, List.getElem_cons_zero, Act.put, List.setIfInBounds_toArray, List.set_cons_zero, List.set_cons_succ]
  iterate 5 (refine planE_pure (v := ?_) rfl (by rfl) (fun w' => ?_) ?_; rotate_left; (focus (simp only [List.getElem_toArray, List.getElem_cons_succ, List.getElem_cons_zero]; go_simp; first | with_reducible rfl | (simp (disch := omega) only [if_pos, if_neg, dif_pos, Result.andThen_ok]; try with_reducible rfl) | skip)); try simp only [List.getElem_toArray, List.getElem_cons_succ, List.getElem_cons_zero, Act.put, List.setIfInBounds_toArray, List.set_cons_zero, List.set_cons_succ])
  refine planE_end ?_
  have x0 := HA3.out.cell 0 rfl; have x1 := HA3.out.cell 1 rfl; have x2 := HA3.out.cell 2 rfl; have x3 := HA3.out.cell 3 rfl; have x4 := HA3.out.cell 4 rfl; have x5 := HA3.out.cell 5 rfl; have x6 := HA3.out.cell 6 rfl; have x7 := HA3.out.cell 7 rfl; have x8 := HA3.out.cell 8 rfl; have x9 := HA3.out.cell 9 rfl; have x10 := HA3.out.cell 10 rfl; have x11 := HA3.out.cell 11 rfl; have x12 := HA3.out.cell 12 rfl
  go_wp2_with (go_at_call 13; refine (CR.out _).mono ?_)
  intro e w4 hpp; unfold RefActA at hpp; obtain ⟨lx, rfl, hlx, hb4⟩ := hpp
  have HLX := Lib.hid hlx
  have HB4 := Lib.hid (HB3.out.trans (hb4.mono HB3.out.size))
  have HS4 := Lib.hid (HS3.out.kept hb4)
  have HA4 := Lib.hid (HA3.out.kept hb4)
  have HE4 := Lib.hid ((HE.out.below HB4.out).up HB4.out.size)
  clear x0 x1 x2 x3 x4 x5 x6 x7 x8 x9 x10 x11 x12
  clear hb4 HB3 HS3 HA3 hlx
  go_wp2_with (go_at_call 11; refine (scrAnswers _ HE4.out.env).mono ?_)
  first | rintro e w5 rfl hb5 | rintro e w5 ⟨rfl, hb5⟩
  have HB5 := Lib.hid (HB4.out.trans (hb5.mono HB4.out.size))
  have HS5 := Lib.hid (HS4.out.kept hb5)
  have HA5 := Lib.hid (HA4.out.kept hb5)
  have HE5 := Lib.hid ((HE.out.below HB5.out).up HB5.out.size)
  clear hb5 HB4 HS4 HA4 HE4
  go_wp2_with (go_at_call 19; refine (scrToScript tx _ HE5.out).mono ?_)
  intro e w6 hpp; unfold ToScrE at hpp; rw [HRD.out] at hpp; obtain ⟨A1, c1, rfl, ho1, b6⟩ := hpp
  simp only [Read.set, Read.acts, Read.line, Read.err, List.map_cons, List.map_nil]
  have HB6 := Lib.hid (HB5.out.trans (b6.mono HB5.out.size))
  have HS6 := Lib.hid (HS5.out.kept b6)
  have HA6 := Lib.hid (HA5.out.kept b6)
  have HN := Lib.hid (Blk.new w6 #[.int .i64 0, .int .i64 0, .int .i64 0, .int .i64 0, .int .i64 0, .int .i64 0, .int .i64 0, .int .i64 0, .int .i64 0, .int .i64 0] 23)
  obtain ⟨hb7, hx7⟩ := laid_row w6 #[.int .i64 0, .int .i64 0, .int .i64 0, .int .i64 0, .int .i64 0, .int .i64 0, .int .i64 0, .int .i64 0, .int .i64 0, .int .i64 0] #[.int .i64 z0, .int .i64 z1, .int .i64 z2, .int .i64 z3, .int .i64 z4, .int .i64 z5, .int .i64 z6, .int .i64 z7, .int .i64 z8, .int .i64 z9] 23
  have HX7 := Lib.hid hx7
  have HB7 := Lib.hid (HB6.out.trans (hb7.mono HB6.out.size))
  have HS7 := Lib.hid (HS6.out.kept hb7)
  have HA7 := Lib.hid (HA6.out.kept hb7)
  have HO7 := Lib.hid ((ho1.below hb7).rs)
  clear ho1 b6 hb7 hx7 HB5 HS5 HA5 HB6 HS6 HA6 HE5
  go_wp2_with (refine wpList_store_row rfl 23 (.tmp 13) (.tmp 49) rfl w6.heap.size #[.int .i64 z0, .int .i64 z1, .int .i64 z2, .int .i64 z3, .int .i64 z4, .int .i64 z5, .int .i64 z6, .int .i64 z7, .int .i64 z8, .int .i64 z9] rfl rfl _ _ HN.out set_size' rfl (by simp [Value.oneCell']) ?_; have y0 := HX7.out.cell 0 rfl; have y1 := HX7.out.cell 1 rfl; have y2 := HX7.out.cell 2 rfl; have y3 := HX7.out.cell 3 rfl; have y4 := HX7.out.cell 4 rfl; have y5 := HX7.out.cell 5 rfl; have y6 := HX7.out.cell 6 rfl; have y7 := HX7.out.cell 7 rfl; have y8 := HX7.out.cell 8 rfl; have y9 := HX7.out.cell 9 rfl; have s0 := HS7.out.cell 0 rfl; have s1 := HS7.out.cell 1 rfl; have s2 := HS7.out.cell 2 rfl; have s3 := HS7.out.cell 3 rfl; have s4 := HS7.out.cell 4 rfl; have s5 := HS7.out.cell 5 rfl; have s6 := HS7.out.cell 6 rfl; have s7 := HS7.out.cell 7 rfl; have s8 := HS7.out.cell 8 rfl; have s9 := HS7.out.cell 9 rfl; have hse := set_eq z0 z1 z2 z3 z4 z5 z6 z7 z8 z9)
  go_wp2_with (go_at_call 21; refine (lawSame A1 A c1 c xs _ HO7.out (HR.out.below HB7.out) (by omega)).mono ?_)
  first | rintro e w8 rfl b8 | rintro e w8 ⟨rfl, b8⟩
  clear hse y0 y1 y2 y3 y4 y5 y6 y7 y8 y9 s0 s1 s2 s3 s4 s5 s6 s7 s8 s9
  generalize (w6.alloc (.cells #[.int .i64 0, .int .i64 0, .int .i64 0, .int .i64 0, .int .i64 0, .int .i64 0, .int .i64 0, .int .i64 0, .int .i64 0, .int .i64 0] 23)).setRow w6.heap.size #[.int .i64 z0, .int .i64 z1, .int .i64 z2, .int .i64 z3, .int .i64 z4, .int .i64 z5, .int .i64 z6, .int .i64 z7, .int .i64 z8, .int .i64 z9] = w7 at *
  have HB8 := Lib.hid (HB7.out.trans (b8.mono HB7.out.size))
  have HA8 := Lib.hid (HA7.out.kept b8)
  have HE8 := Lib.hid ((HE.out.below HB8.out).up HB8.out.size)
  clear b8 HO7 HX7 HS7 HA7 HB7 HN
  by_cases hsh : ao = true ∧ tx.length < 60000
  · obtain ⟨rfl, hsl⟩ := hsh
    have hle : (tx.length : Int) < 60000 := by omega
    have hlx : lx = ln := HLX.out rfl
    subst hlx
    have hlx2 : lx.length ≤ 1600 := HLL.out rfl
    have HMR := Lib.hid (HMORE.out rfl hsl)
    obtain ⟨t1, ht1, hl1, hcat1⟩ := catE tx lx 60000 1600 61600 (by omega) hlx2 (by decide) (by decide)
    obtain ⟨t2, ht2, hl2, hcat2⟩ := catE t1 [10] 61600 1 61601 hl1 (by simp) (by decide) (by decide)
    have HRD2 : Hid (readScript t2 = .ok [z0, z1, z2, z3, z4, z5, z6, z7, z8, z9] (xs ++ [⟨kind, ka, kb, kn, kdraw, kmask, ⟨ses, seq, op, key, amount, span, lease⟩⟩])) := Lib.hid (by rw [ht2.out, ht1.out]; exact HMR.out)
    clear ht1 ht2 HMR HMORE HLL HLX
    go_wp2_with (go_at_call 19; refine (scrToScript t2 _ HE8.out).mono ?_)
    intro e w9 hpp; unfold ToScrE at hpp; rw [HRD2.out] at hpp; obtain ⟨A2, c2, rfl, ho2, b9⟩ := hpp
    simp only [Read.set, Read.acts, Read.line, Read.err, List.map_cons, List.map_nil]
    rw [show (xs ++ [(⟨kind, ka, kb, kn, kdraw, kmask, ⟨ses, seq, op, key, amount, span, lease⟩⟩ : Ap)]).length = xs.length + 1 from by simp]
    have HB9 := Lib.hid (HB8.out.trans (b9.mono HB8.out.size))
    have HA9 := Lib.hid (HA8.out.kept b9)
    have HN := Lib.hid (Blk.new w9 #[.int .i64 0, .int .i64 0, .int .i64 0, .int .i64 0, .int .i64 0, .int .i64 0, .int .i64 0, .int .i64 0, .int .i64 0, .int .i64 0] 23)
    obtain ⟨hb10, hx10⟩ := laid_row w9 #[.int .i64 0, .int .i64 0, .int .i64 0, .int .i64 0, .int .i64 0, .int .i64 0, .int .i64 0, .int .i64 0, .int .i64 0, .int .i64 0] #[.int .i64 z0, .int .i64 z1, .int .i64 z2, .int .i64 z3, .int .i64 z4, .int .i64 z5, .int .i64 z6, .int .i64 z7, .int .i64 z8, .int .i64 z9] 23
    have HB10 := Lib.hid (HB9.out.trans (hb10.mono HB9.out.size))
    have HA10 := Lib.hid (HA9.out.kept hb10)
    simp only [Read.acts] at ho2
    have HO10 := Lib.hid ((ho2.below hb10).rs)
    clear ho2 b9 hb10 hx10 HB8 HA8 HE8 HB9 HA9 hcat1 hcat2
    obtain ⟨bo, oo, eA2, hbo, hco⟩ := acts_row (xs := xs ++ [(⟨kind, ka, kb, kn, kdraw, kmask, ⟨ses, seq, op, key, amount, span, lease⟩⟩ : Ap)]) (k := xs.length) HO10.out (by simp)
    rw [last_at] at hco
    subst eA2
    have HCO := Lib.hid hco
    have hwq : IntKind.i64.wrap ((xs.length : Int) + 1) = (xs.length : Int) + 1 := by rw [IntKind.wrap_i64]; omega
    have hcq : ((xs.length + 1 : Nat) : Int) = (xs.length : Int) + 1 := by omega
    have hli : (xs.length : Int) < (xs.length : Int) + 1 := by omega
    have hli0 : (0 : Int) ≤ (xs.length : Int) := by omega
    have heq := HEA.out
    clear hco
    go_wp2_with (refine wpList_store_row rfl 23 (.tmp 17) (.tmp 78) rfl w9.heap.size #[.int .i64 z0, .int .i64 z1, .int .i64 z2, .int .i64 z3, .int .i64 z4, .int .i64 z5, .int .i64 z6, .int .i64 z7, .int .i64 z8, .int .i64 z9] rfl rfl _ _ HN.out set_size' rfl (by simp [Value.oneCell']) ?_)
    clear HN
    generalize (w9.alloc (.cells #[.int .i64 0, .int .i64 0, .int .i64 0, .int .i64 0, .int .i64 0, .int .i64 0, .int .i64 0, .int .i64 0, .int .i64 0, .int .i64 0] 23)).setRow w9.heap.size #[.int .i64 z0, .int .i64 z1, .int .i64 z2, .int .i64 z3, .int .i64 z4, .int .i64 z5, .int .i64 z6, .int .i64 z7, .int .i64 z8, .int .i64 z9] = w10 at *
    have d0 := HCO.out 0 _ rfl; have d1 := HCO.out 1 _ rfl; have d2 := HCO.out 2 _ rfl; have d3 := HCO.out 3 _ rfl; have d4 := HCO.out 4 _ rfl; have d5 := HCO.out 5 _ rfl; have d6 := HCO.out 6 _ rfl; have d7 := HCO.out 7 _ rfl; have d8 := HCO.out 8 _ rfl; have d9 := HCO.out 9 _ rfl; have d10 := HCO.out 10 _ rfl; have d11 := HCO.out 11 _ rfl; have d12 := HCO.out 12 _ rfl
    simp only [Nat.add_zero] at d0
    have x0 := HA10.out.cell 0 rfl; have x1 := HA10.out.cell 1 rfl; have x2 := HA10.out.cell 2 rfl; have x3 := HA10.out.cell 3 rfl; have x4 := HA10.out.cell 4 rfl; have x5 := HA10.out.cell 5 rfl; have x6 := HA10.out.cell 6 rfl; have x7 := HA10.out.cell 7 rfl; have x8 := HA10.out.cell 8 rfl; have x9 := HA10.out.cell 9 rfl; have x10 := HA10.out.cell 10 rfl; have x11 := HA10.out.cell 11 rfl; have x12 := HA10.out.cell 12 rfl
    go_quiet (fail)
    clear heq hwq hcq hli hli0
    clear d0 d1 d2 d3 d4 d5 d6 d7 d8 d9 d10 d11 d12
    clear x0 x1 x2 x3 x4 x5 x6 x7 x8 x9 x10 x11 x12
    have HB11 : Hid (Below w.heap.size w (w10.drewN nq)) := Lib.hid (HB10.out.trans ((below_drewN w10 nq).mono HB10.out.size))
    clear HB10 HA10 HO10 HCO hbo HRD2 hle hlx2 hl1 hl2
    generalize w10.drewN nq = w11 at *
    have HE11 := Lib.hid ((HE.out.below HB11.out).up HB11.out.size)
    have hcn : IntKind.i64.wrap (n : Int) = (n : Int) := by rw [IntKind.wrap_i64]; omega
    have hln : IntKind.i64.wrap ((tx.length : Int) + 1) = (tx.length : Int) + 1 := by rw [IntKind.wrap_i64]; omega
    obtain ⟨K, hKn⟩ : ∃ K, n % (tx.length + 1) = K := ⟨_, rfl⟩
    have hKl : K ≤ tx.length := by have := Nat.mod_lt n (show 0 < tx.length + 1 by omega); omega
    have hrm : Int.tmod (n : Int) ((tx.length : Int) + 1) = (K : Int) := by rw [Int.tmod_eq_emod_of_nonneg (by omega), ← hKn]; simp
    have hex : (⟨tx.toArray⟩ : ByteArray).extract 0 K = ⟨(tx.take K).toArray⟩ := take_ext tx K
    have CTK := Lib.hid (fun W hW => scrToScript (tx.take K) W hW)
    clear hcu hKn
    rcases Nat.eq_zero_or_pos K with h0 | hp
    · have HRD3 : Hid (readScript (tx.take K) = .bad 1) := Lib.hid (by subst h0; rw [List.take_zero]; rfl)
      have hk0' : ¬ (0 : Int) < (K : Int) := by omega
      clear h0
      go_wp2_with (go_at_call 19; first | with_reducible refine (CTK.out _ HE11.out).mono ?_ | (rw [hex]; with_reducible refine (CTK.out _ HE11.out).mono ?_))
      intro e w12 hpp; unfold ToScrE at hpp; rw [HRD3.out] at hpp; obtain ⟨A3, c3, rfl, ho3, b12⟩ := hpp
      simp only [Read.set, Read.acts, Read.line, Read.err, List.map_cons, List.map_nil, List.length_nil]
      have HN := Lib.hid (Blk.new w12 #[.int .i64 0, .int .i64 0, .int .i64 0, .int .i64 0, .int .i64 0, .int .i64 0, .int .i64 0, .int .i64 0, .int .i64 0, .int .i64 0] 23)
      obtain ⟨hb13, hx13⟩ := laid_row w12 #[.int .i64 0, .int .i64 0, .int .i64 0, .int .i64 0, .int .i64 0, .int .i64 0, .int .i64 0, .int .i64 0, .int .i64 0, .int .i64 0] #[.int .i64 0, .int .i64 0, .int .i64 0, .int .i64 0, .int .i64 0, .int .i64 0, .int .i64 0, .int .i64 0, .int .i64 0, .int .i64 0] 23
      have HB12 := Lib.hid (HB11.out.trans (b12.mono HB11.out.size))
      have HB13 := Lib.hid (HB12.out.trans (hb13.mono HB12.out.size))
      clear ho3 b12 hb13 hx13 HB11 HE11 HB12 HRD3 hrm hcn hln hex CTK hKl
      try clear hge hge2
      go_wp2_with (refine wpList_store_row rfl 23 (.tmp 22) (.tmp 112) rfl w12.heap.size #[.int .i64 0, .int .i64 0, .int .i64 0, .int .i64 0, .int .i64 0, .int .i64 0, .int .i64 0, .int .i64 0, .int .i64 0, .int .i64 0] rfl rfl _ _ HN.out set_size' rfl (by simp [Value.oneCell']) ?_)
      go_ret
      exact ⟨rfl, HB13.out⟩
    · obtain ⟨m, hm1⟩ : ∃ m, K = m + 1 := ⟨K - 1, by omega⟩
      have hm : m < tx.length := by omega
      have hix := at_here tx m hm
      have hk1 : (K : Int) - 1 = (m : Int) := by omega
      have hkp : (0 : Int) < (K : Int) := by omega
      by_cases hten : tx[m] = 10
      · obtain ⟨j, hj, hrd⟩ := HCUT.out m hm hten
        have HRD3 : Hid (readScript (tx.take K) = .ok [z0, z1, z2, z3, z4, z5, z6, z7, z8, z9] (xs.take j)) := Lib.hid (by rw [hm1]; exact hrd)
        have hcx : ((tx[m].toNat : Int) == 10) = true := by rw [hten]; rfl
        generalize tx[m].toNat = tm at *
        have hjx : (j : Int) ≤ (xs.length : Int) := by omega
        have hjc : (j : Int) ≤ (c : Int) := by omega
        clear hrd hten hm1
        go_wp2_with (go_at_call 19; first | with_reducible refine (CTK.out _ HE11.out).mono ?_ | (rw [hex]; with_reducible refine (CTK.out _ HE11.out).mono ?_))
        intro e w12 hpp; unfold ToScrE at hpp; rw [HRD3.out] at hpp; obtain ⟨A3, c3, rfl, ho3, b12⟩ := hpp
        simp only [Read.acts] at ho3
        simp only [Read.set, Read.acts, Read.line, Read.err, List.map_cons, List.map_nil, List.length_nil]
        have hjl : (xs.take j).length = j := by rw [List.length_take]; omega
        rw [hjl]
        have HN := Lib.hid (Blk.new w12 #[.int .i64 0, .int .i64 0, .int .i64 0, .int .i64 0, .int .i64 0, .int .i64 0, .int .i64 0, .int .i64 0, .int .i64 0, .int .i64 0] 23)
        obtain ⟨hb13, hx13⟩ := laid_row w12 #[.int .i64 0, .int .i64 0, .int .i64 0, .int .i64 0, .int .i64 0, .int .i64 0, .int .i64 0, .int .i64 0, .int .i64 0, .int .i64 0] #[.int .i64 z0, .int .i64 z1, .int .i64 z2, .int .i64 z3, .int .i64 z4, .int .i64 z5, .int .i64 z6, .int .i64 z7, .int .i64 z8, .int .i64 z9] 23
        have HB12 := Lib.hid (HB11.out.trans (b12.mono HB11.out.size))
        have HB13 := Lib.hid (HB12.out.trans (hb13.mono HB12.out.size))
        have HO13 := Lib.hid ((ho3.below hb13).rs)
        have HRT : Hid (RS ((w12.alloc (.cells #[.int .i64 0, .int .i64 0, .int .i64 0, .int .i64 0, .int .i64 0, .int .i64 0, .int .i64 0, .int .i64 0, .int .i64 0, .int .i64 0] 23)).setRow w12.heap.size #[.int .i64 z0, .int .i64 z1, .int .i64 z2, .int .i64 z3, .int .i64 z4, .int .i64 z5, .int .i64 z6, .int .i64 z7, .int .i64 z8, .int .i64 z9]) A 13 ((xs.take j).map Ap.cells)) := Lib.hid (by rw [List.map_take]; exact (HR.out.below HB13.out).take j)
        have HSAME := Lib.hid (fun (c d : Nat) => lawSame A3 A c d (xs.take j) _ HO13.out HRT.out (by omega))
        rw [hjl] at HSAME
        clear ho3 b12 hb13 hx13 HB11 HE11 HB12 HRD3 HO13 HRT hjl hrm hcn hln hex CTK hKl
        try clear hge hge2
        go_wp2_with (first
          | (refine wpList_store_row rfl 23 (.tmp 22) (.tmp 112) rfl w12.heap.size #[.int .i64 z0, .int .i64 z1, .int .i64 z2, .int .i64 z3, .int .i64 z4, .int .i64 z5, .int .i64 z6, .int .i64 z7, .int .i64 z8, .int .i64 z9] rfl rfl _ _ HN.out set_size' rfl (by simp [Value.oneCell']) ?_)
          | (go_at_call 21; refine (HSAME.out c3 _).mono ?_))
        first | rintro e w14 rfl b14 | rintro e w14 ⟨rfl, b14⟩
        go_wp2_with fail
        go_ret
        exact ⟨rfl, HB13.out.trans (b14.mono HB13.out.size)⟩
      · obtain ⟨j, hrd⟩ := HTORN.out m hm hten
        have HRD3 : Hid (readScript (tx.take K) = .bad j) := Lib.hid (by rw [hm1]; exact hrd)
        have hcx : ((tx[m].toNat : Int) == 10) = false := by
          rw [beq_eq_false_iff_ne]
          intro e
          have e' : (tx[m].toNat : Int) = 10 := e
          exact hten (show tx[m] = UInt8.ofNat 10 from u8_eq (n := 10) (by decide) (by omega))
        generalize tx[m].toNat = tm at *
        clear hrd hten hm1
        go_wp2_with (go_at_call 19; first | with_reducible refine (CTK.out _ HE11.out).mono ?_ | (rw [hex]; with_reducible refine (CTK.out _ HE11.out).mono ?_))
        intro e w12 hpp; unfold ToScrE at hpp; rw [HRD3.out] at hpp; obtain ⟨A3, c3, rfl, ho3, b12⟩ := hpp
        simp only [Read.set, Read.acts, Read.line, Read.err, List.map_cons, List.map_nil, List.length_nil]
        have HN := Lib.hid (Blk.new w12 #[.int .i64 0, .int .i64 0, .int .i64 0, .int .i64 0, .int .i64 0, .int .i64 0, .int .i64 0, .int .i64 0, .int .i64 0, .int .i64 0] 23)
        obtain ⟨hb13, hx13⟩ := laid_row w12 #[.int .i64 0, .int .i64 0, .int .i64 0, .int .i64 0, .int .i64 0, .int .i64 0, .int .i64 0, .int .i64 0, .int .i64 0, .int .i64 0] #[.int .i64 0, .int .i64 0, .int .i64 0, .int .i64 0, .int .i64 0, .int .i64 0, .int .i64 0, .int .i64 0, .int .i64 0, .int .i64 0] 23
        have HB12 := Lib.hid (HB11.out.trans (b12.mono HB11.out.size))
        have HB13 := Lib.hid (HB12.out.trans (hb13.mono HB12.out.size))
        clear ho3 b12 hb13 hx13 HB11 HE11 HB12 HRD3 hrm hcn hln hex CTK hKl
        try clear hge hge2
        go_wp2_with (refine wpList_store_row rfl 23 (.tmp 22) (.tmp 112) rfl w12.heap.size #[.int .i64 0, .int .i64 0, .int .i64 0, .int .i64 0, .int .i64 0, .int .i64 0, .int .i64 0, .int .i64 0, .int .i64 0, .int .i64 0] rfl rfl _ _ HN.out set_size' rfl (by simp [Value.oneCell']) ?_)
        go_ret
        exact ⟨rfl, HB13.out⟩
  · have HB11 := HB8
    clear HB8 HA8 HE8 HMORE HLL HLX
    obtain ⟨w11, hw11⟩ : ∃ w11, w11 = w8 := ⟨_, rfl⟩
    rw [← hw11] at HB11 ⊢
    clear hw11
    cases ao with
    | false =>
      clear hsh
      have HE11 := Lib.hid ((HE.out.below HB11.out).up HB11.out.size)
      have hcn : IntKind.i64.wrap (n : Int) = (n : Int) := by rw [IntKind.wrap_i64]; omega
      have hln : IntKind.i64.wrap ((tx.length : Int) + 1) = (tx.length : Int) + 1 := by rw [IntKind.wrap_i64]; omega
      obtain ⟨K, hKn⟩ : ∃ K, n % (tx.length + 1) = K := ⟨_, rfl⟩
      have hKl : K ≤ tx.length := by have := Nat.mod_lt n (show 0 < tx.length + 1 by omega); omega
      have hrm : Int.tmod (n : Int) ((tx.length : Int) + 1) = (K : Int) := by rw [Int.tmod_eq_emod_of_nonneg (by omega), ← hKn]; simp
      have hex : (⟨tx.toArray⟩ : ByteArray).extract 0 K = ⟨(tx.take K).toArray⟩ := take_ext tx K
      have CTK := Lib.hid (fun W hW => scrToScript (tx.take K) W hW)
      clear hcu hKn
      rcases Nat.eq_zero_or_pos K with h0 | hp
      · have HRD3 : Hid (readScript (tx.take K) = .bad 1) := Lib.hid (by subst h0; rw [List.take_zero]; rfl)
        have hk0' : ¬ (0 : Int) < (K : Int) := by omega
        clear h0
        go_wp2_with (go_at_call 19; first | with_reducible refine (CTK.out _ HE11.out).mono ?_ | (rw [hex]; with_reducible refine (CTK.out _ HE11.out).mono ?_))
        intro e w12 hpp; unfold ToScrE at hpp; rw [HRD3.out] at hpp; obtain ⟨A3, c3, rfl, ho3, b12⟩ := hpp
        simp only [Read.set, Read.acts, Read.line, Read.err, List.map_cons, List.map_nil, List.length_nil]
        have HN := Lib.hid (Blk.new w12 #[.int .i64 0, .int .i64 0, .int .i64 0, .int .i64 0, .int .i64 0, .int .i64 0, .int .i64 0, .int .i64 0, .int .i64 0, .int .i64 0] 23)
        obtain ⟨hb13, hx13⟩ := laid_row w12 #[.int .i64 0, .int .i64 0, .int .i64 0, .int .i64 0, .int .i64 0, .int .i64 0, .int .i64 0, .int .i64 0, .int .i64 0, .int .i64 0] #[.int .i64 0, .int .i64 0, .int .i64 0, .int .i64 0, .int .i64 0, .int .i64 0, .int .i64 0, .int .i64 0, .int .i64 0, .int .i64 0] 23
        have HB12 := Lib.hid (HB11.out.trans (b12.mono HB11.out.size))
        have HB13 := Lib.hid (HB12.out.trans (hb13.mono HB12.out.size))
        clear ho3 b12 hb13 hx13 HB11 HE11 HB12 HRD3 hrm hcn hln hex CTK hKl
        try clear hge hge2
        go_wp2_with (refine wpList_store_row rfl 23 (.tmp 22) (.tmp 112) rfl w12.heap.size #[.int .i64 0, .int .i64 0, .int .i64 0, .int .i64 0, .int .i64 0, .int .i64 0, .int .i64 0, .int .i64 0, .int .i64 0, .int .i64 0] rfl rfl _ _ HN.out set_size' rfl (by simp [Value.oneCell']) ?_)
        go_ret
        exact ⟨rfl, HB13.out⟩
      · obtain ⟨m, hm1⟩ : ∃ m, K = m + 1 := ⟨K - 1, by omega⟩
        have hm : m < tx.length := by omega
        have hix := at_here tx m hm
        have hk1 : (K : Int) - 1 = (m : Int) := by omega
        have hkp : (0 : Int) < (K : Int) := by omega
        by_cases hten : tx[m] = 10
        · obtain ⟨j, hj, hrd⟩ := HCUT.out m hm hten
          have HRD3 : Hid (readScript (tx.take K) = .ok [z0, z1, z2, z3, z4, z5, z6, z7, z8, z9] (xs.take j)) := Lib.hid (by rw [hm1]; exact hrd)
          have hcx : ((tx[m].toNat : Int) == 10) = true := by rw [hten]; rfl
          generalize tx[m].toNat = tm at *
          have hjx : (j : Int) ≤ (xs.length : Int) := by omega
          have hjc : (j : Int) ≤ (c : Int) := by omega
          clear hrd hten hm1
          go_wp2_with (go_at_call 19; first | with_reducible refine (CTK.out _ HE11.out).mono ?_ | (rw [hex]; with_reducible refine (CTK.out _ HE11.out).mono ?_))
          intro e w12 hpp; unfold ToScrE at hpp; rw [HRD3.out] at hpp; obtain ⟨A3, c3, rfl, ho3, b12⟩ := hpp
          simp only [Read.acts] at ho3
          simp only [Read.set, Read.acts, Read.line, Read.err, List.map_cons, List.map_nil, List.length_nil]
          have hjl : (xs.take j).length = j := by rw [List.length_take]; omega
          rw [hjl]
          have HN := Lib.hid (Blk.new w12 #[.int .i64 0, .int .i64 0, .int .i64 0, .int .i64 0, .int .i64 0, .int .i64 0, .int .i64 0, .int .i64 0, .int .i64 0, .int .i64 0] 23)
          obtain ⟨hb13, hx13⟩ := laid_row w12 #[.int .i64 0, .int .i64 0, .int .i64 0, .int .i64 0, .int .i64 0, .int .i64 0, .int .i64 0, .int .i64 0, .int .i64 0, .int .i64 0] #[.int .i64 z0, .int .i64 z1, .int .i64 z2, .int .i64 z3, .int .i64 z4, .int .i64 z5, .int .i64 z6, .int .i64 z7, .int .i64 z8, .int .i64 z9] 23
          have HB12 := Lib.hid (HB11.out.trans (b12.mono HB11.out.size))
          have HB13 := Lib.hid (HB12.out.trans (hb13.mono HB12.out.size))
          have HO13 := Lib.hid ((ho3.below hb13).rs)
          have HRT : Hid (RS ((w12.alloc (.cells #[.int .i64 0, .int .i64 0, .int .i64 0, .int .i64 0, .int .i64 0, .int .i64 0, .int .i64 0, .int .i64 0, .int .i64 0, .int .i64 0] 23)).setRow w12.heap.size #[.int .i64 z0, .int .i64 z1, .int .i64 z2, .int .i64 z3, .int .i64 z4, .int .i64 z5, .int .i64 z6, .int .i64 z7, .int .i64 z8, .int .i64 z9]) A 13 ((xs.take j).map Ap.cells)) := Lib.hid (by rw [List.map_take]; exact (HR.out.below HB13.out).take j)
          have HSAME := Lib.hid (fun (c d : Nat) => lawSame A3 A c d (xs.take j) _ HO13.out HRT.out (by omega))
          rw [hjl] at HSAME
          clear ho3 b12 hb13 hx13 HB11 HE11 HB12 HRD3 HO13 HRT hjl hrm hcn hln hex CTK hKl
          try clear hge hge2
          go_wp2_with (first
            | (refine wpList_store_row rfl 23 (.tmp 22) (.tmp 112) rfl w12.heap.size #[.int .i64 z0, .int .i64 z1, .int .i64 z2, .int .i64 z3, .int .i64 z4, .int .i64 z5, .int .i64 z6, .int .i64 z7, .int .i64 z8, .int .i64 z9] rfl rfl _ _ HN.out set_size' rfl (by simp [Value.oneCell']) ?_)
            | (go_at_call 21; refine (HSAME.out c3 _).mono ?_))
          first | rintro e w14 rfl b14 | rintro e w14 ⟨rfl, b14⟩
          go_wp2_with fail
          go_ret
          exact ⟨rfl, HB13.out.trans (b14.mono HB13.out.size)⟩
        · obtain ⟨j, hrd⟩ := HTORN.out m hm hten
          have HRD3 : Hid (readScript (tx.take K) = .bad j) := Lib.hid (by rw [hm1]; exact hrd)
          have hcx : ((tx[m].toNat : Int) == 10) = false := by
            rw [beq_eq_false_iff_ne]
            intro e
            have e' : (tx[m].toNat : Int) = 10 := e
            exact hten (show tx[m] = UInt8.ofNat 10 from u8_eq (n := 10) (by decide) (by omega))
          generalize tx[m].toNat = tm at *
          clear hrd hten hm1
          go_wp2_with (go_at_call 19; first | with_reducible refine (CTK.out _ HE11.out).mono ?_ | (rw [hex]; with_reducible refine (CTK.out _ HE11.out).mono ?_))
          intro e w12 hpp; unfold ToScrE at hpp; rw [HRD3.out] at hpp; obtain ⟨A3, c3, rfl, ho3, b12⟩ := hpp
          simp only [Read.set, Read.acts, Read.line, Read.err, List.map_cons, List.map_nil, List.length_nil]
          have HN := Lib.hid (Blk.new w12 #[.int .i64 0, .int .i64 0, .int .i64 0, .int .i64 0, .int .i64 0, .int .i64 0, .int .i64 0, .int .i64 0, .int .i64 0, .int .i64 0] 23)
          obtain ⟨hb13, hx13⟩ := laid_row w12 #[.int .i64 0, .int .i64 0, .int .i64 0, .int .i64 0, .int .i64 0, .int .i64 0, .int .i64 0, .int .i64 0, .int .i64 0, .int .i64 0] #[.int .i64 0, .int .i64 0, .int .i64 0, .int .i64 0, .int .i64 0, .int .i64 0, .int .i64 0, .int .i64 0, .int .i64 0, .int .i64 0] 23
          have HB12 := Lib.hid (HB11.out.trans (b12.mono HB11.out.size))
          have HB13 := Lib.hid (HB12.out.trans (hb13.mono HB12.out.size))
          clear ho3 b12 hb13 hx13 HB11 HE11 HB12 HRD3 hrm hcn hln hex CTK hKl
          try clear hge hge2
          go_wp2_with (refine wpList_store_row rfl 23 (.tmp 22) (.tmp 112) rfl w12.heap.size #[.int .i64 0, .int .i64 0, .int .i64 0, .int .i64 0, .int .i64 0, .int .i64 0, .int .i64 0, .int .i64 0, .int .i64 0, .int .i64 0] rfl rfl _ _ HN.out set_size' rfl (by simp [Value.oneCell']) ?_)
          go_ret
          exact ⟨rfl, HB13.out⟩
    | true =>
      have hge : ¬ (tx.length : Int) < 60000 := fun h => hsh ⟨rfl, by omega⟩
      have hge2 : decide ((tx.length : Int) < 60000) = false := decide_eq_false hge
      clear hsh
      have HE11 := Lib.hid ((HE.out.below HB11.out).up HB11.out.size)
      have hcn : IntKind.i64.wrap (n : Int) = (n : Int) := by rw [IntKind.wrap_i64]; omega
      have hln : IntKind.i64.wrap ((tx.length : Int) + 1) = (tx.length : Int) + 1 := by rw [IntKind.wrap_i64]; omega
      obtain ⟨K, hKn⟩ : ∃ K, n % (tx.length + 1) = K := ⟨_, rfl⟩
      have hKl : K ≤ tx.length := by have := Nat.mod_lt n (show 0 < tx.length + 1 by omega); omega
      have hrm : Int.tmod (n : Int) ((tx.length : Int) + 1) = (K : Int) := by rw [Int.tmod_eq_emod_of_nonneg (by omega), ← hKn]; simp
      have hex : (⟨tx.toArray⟩ : ByteArray).extract 0 K = ⟨(tx.take K).toArray⟩ := take_ext tx K
      have CTK := Lib.hid (fun W hW => scrToScript (tx.take K) W hW)
      clear hcu hKn
      rcases Nat.eq_zero_or_pos K with h0 | hp
      · have HRD3 : Hid (readScript (tx.take K) = .bad 1) := Lib.hid (by subst h0; rw [List.take_zero]; rfl)
        have hk0' : ¬ (0 : Int) < (K : Int) := by omega
        clear h0
        go_wp2_with (go_at_call 19; first | with_reducible refine (CTK.out _ HE11.out).mono ?_ | (rw [hex]; with_reducible refine (CTK.out _ HE11.out).mono ?_))
        intro e w12 hpp; unfold ToScrE at hpp; rw [HRD3.out] at hpp; obtain ⟨A3, c3, rfl, ho3, b12⟩ := hpp
        simp only [Read.set, Read.acts, Read.line, Read.err, List.map_cons, List.map_nil, List.length_nil]
        have HN := Lib.hid (Blk.new w12 #[.int .i64 0, .int .i64 0, .int .i64 0, .int .i64 0, .int .i64 0, .int .i64 0, .int .i64 0, .int .i64 0, .int .i64 0, .int .i64 0] 23)
        obtain ⟨hb13, hx13⟩ := laid_row w12 #[.int .i64 0, .int .i64 0, .int .i64 0, .int .i64 0, .int .i64 0, .int .i64 0, .int .i64 0, .int .i64 0, .int .i64 0, .int .i64 0] #[.int .i64 0, .int .i64 0, .int .i64 0, .int .i64 0, .int .i64 0, .int .i64 0, .int .i64 0, .int .i64 0, .int .i64 0, .int .i64 0] 23
        have HB12 := Lib.hid (HB11.out.trans (b12.mono HB11.out.size))
        have HB13 := Lib.hid (HB12.out.trans (hb13.mono HB12.out.size))
        clear ho3 b12 hb13 hx13 HB11 HE11 HB12 HRD3 hrm hcn hln hex CTK hKl
        try clear hge hge2
        go_wp2_with (refine wpList_store_row rfl 23 (.tmp 22) (.tmp 112) rfl w12.heap.size #[.int .i64 0, .int .i64 0, .int .i64 0, .int .i64 0, .int .i64 0, .int .i64 0, .int .i64 0, .int .i64 0, .int .i64 0, .int .i64 0] rfl rfl _ _ HN.out set_size' rfl (by simp [Value.oneCell']) ?_)
        go_ret
        exact ⟨rfl, HB13.out⟩
      · obtain ⟨m, hm1⟩ : ∃ m, K = m + 1 := ⟨K - 1, by omega⟩
        have hm : m < tx.length := by omega
        have hix := at_here tx m hm
        have hk1 : (K : Int) - 1 = (m : Int) := by omega
        have hkp : (0 : Int) < (K : Int) := by omega
        by_cases hten : tx[m] = 10
        · obtain ⟨j, hj, hrd⟩ := HCUT.out m hm hten
          have HRD3 : Hid (readScript (tx.take K) = .ok [z0, z1, z2, z3, z4, z5, z6, z7, z8, z9] (xs.take j)) := Lib.hid (by rw [hm1]; exact hrd)
          have hcx : ((tx[m].toNat : Int) == 10) = true := by rw [hten]; rfl
          generalize tx[m].toNat = tm at *
          have hjx : (j : Int) ≤ (xs.length : Int) := by omega
          have hjc : (j : Int) ≤ (c : Int) := by omega
          clear hrd hten hm1
          go_wp2_with (go_at_call 19; first | with_reducible refine (CTK.out _ HE11.out).mono ?_ | (rw [hex]; with_reducible refine (CTK.out _ HE11.out).mono ?_))
          intro e w12 hpp; unfold ToScrE at hpp; rw [HRD3.out] at hpp; obtain ⟨A3, c3, rfl, ho3, b12⟩ := hpp
          simp only [Read.acts] at ho3
          simp only [Read.set, Read.acts, Read.line, Read.err, List.map_cons, List.map_nil, List.length_nil]
          have hjl : (xs.take j).length = j := by rw [List.length_take]; omega
          rw [hjl]
          have HN := Lib.hid (Blk.new w12 #[.int .i64 0, .int .i64 0, .int .i64 0, .int .i64 0, .int .i64 0, .int .i64 0, .int .i64 0, .int .i64 0, .int .i64 0, .int .i64 0] 23)
          obtain ⟨hb13, hx13⟩ := laid_row w12 #[.int .i64 0, .int .i64 0, .int .i64 0, .int .i64 0, .int .i64 0, .int .i64 0, .int .i64 0, .int .i64 0, .int .i64 0, .int .i64 0] #[.int .i64 z0, .int .i64 z1, .int .i64 z2, .int .i64 z3, .int .i64 z4, .int .i64 z5, .int .i64 z6, .int .i64 z7, .int .i64 z8, .int .i64 z9] 23
          have HB12 := Lib.hid (HB11.out.trans (b12.mono HB11.out.size))
          have HB13 := Lib.hid (HB12.out.trans (hb13.mono HB12.out.size))
          have HO13 := Lib.hid ((ho3.below hb13).rs)
          have HRT : Hid (RS ((w12.alloc (.cells #[.int .i64 0, .int .i64 0, .int .i64 0, .int .i64 0, .int .i64 0, .int .i64 0, .int .i64 0, .int .i64 0, .int .i64 0, .int .i64 0] 23)).setRow w12.heap.size #[.int .i64 z0, .int .i64 z1, .int .i64 z2, .int .i64 z3, .int .i64 z4, .int .i64 z5, .int .i64 z6, .int .i64 z7, .int .i64 z8, .int .i64 z9]) A 13 ((xs.take j).map Ap.cells)) := Lib.hid (by rw [List.map_take]; exact (HR.out.below HB13.out).take j)
          have HSAME := Lib.hid (fun (c d : Nat) => lawSame A3 A c d (xs.take j) _ HO13.out HRT.out (by omega))
          rw [hjl] at HSAME
          clear ho3 b12 hb13 hx13 HB11 HE11 HB12 HRD3 HO13 HRT hjl hrm hcn hln hex CTK hKl
          try clear hge hge2
          go_wp2_with (first
            | (refine wpList_store_row rfl 23 (.tmp 22) (.tmp 112) rfl w12.heap.size #[.int .i64 z0, .int .i64 z1, .int .i64 z2, .int .i64 z3, .int .i64 z4, .int .i64 z5, .int .i64 z6, .int .i64 z7, .int .i64 z8, .int .i64 z9] rfl rfl _ _ HN.out set_size' rfl (by simp [Value.oneCell']) ?_)
            | (go_at_call 21; refine (HSAME.out c3 _).mono ?_))
          first | rintro e w14 rfl b14 | rintro e w14 ⟨rfl, b14⟩
          go_wp2_with fail
          go_ret
          exact ⟨rfl, HB13.out.trans (b14.mono HB13.out.size)⟩
        · obtain ⟨j, hrd⟩ := HTORN.out m hm hten
          have HRD3 : Hid (readScript (tx.take K) = .bad j) := Lib.hid (by rw [hm1]; exact hrd)
          have hcx : ((tx[m].toNat : Int) == 10) = false := by
            rw [beq_eq_false_iff_ne]
            intro e
            have e' : (tx[m].toNat : Int) = 10 := e
            exact hten (show tx[m] = UInt8.ofNat 10 from u8_eq (n := 10) (by decide) (by omega))
          generalize tx[m].toNat = tm at *
          clear hrd hten hm1
          go_wp2_with (go_at_call 19; first | with_reducible refine (CTK.out _ HE11.out).mono ?_ | (rw [hex]; with_reducible refine (CTK.out _ HE11.out).mono ?_))
          intro e w12 hpp; unfold ToScrE at hpp; rw [HRD3.out] at hpp; obtain ⟨A3, c3, rfl, ho3, b12⟩ := hpp
          simp only [Read.set, Read.acts, Read.line, Read.err, List.map_cons, List.map_nil, List.length_nil]
          have HN := Lib.hid (Blk.new w12 #[.int .i64 0, .int .i64 0, .int .i64 0, .int .i64 0, .int .i64 0, .int .i64 0, .int .i64 0, .int .i64 0, .int .i64 0, .int .i64 0] 23)
          obtain ⟨hb13, hx13⟩ := laid_row w12 #[.int .i64 0, .int .i64 0, .int .i64 0, .int .i64 0, .int .i64 0, .int .i64 0, .int .i64 0, .int .i64 0, .int .i64 0, .int .i64 0] #[.int .i64 0, .int .i64 0, .int .i64 0, .int .i64 0, .int .i64 0, .int .i64 0, .int .i64 0, .int .i64 0, .int .i64 0, .int .i64 0] 23
          have HB12 := Lib.hid (HB11.out.trans (b12.mono HB11.out.size))
          have HB13 := Lib.hid (HB12.out.trans (hb13.mono HB12.out.size))
          clear ho3 b12 hb13 hx13 HB11 HE11 HB12 HRD3 hrm hcn hln hex CTK hKl
          try clear hge hge2
          go_wp2_with (refine wpList_store_row rfl 23 (.tmp 22) (.tmp 112) rfl w12.heap.size #[.int .i64 0, .int .i64 0, .int .i64 0, .int .i64 0, .int .i64 0, .int .i64 0, .int .i64 0, .int .i64 0, .int .i64 0, .int .i64 0] rfl rfl _ _ HN.out set_size' rfl (by simp [Value.oneCell']) ?_)
          go_ret
          exact ⟨rfl, HB13.out⟩

theorem walkScriptBack (R : List Fv) (A : Option Addr) (c : Nat) (L : List (List Fv)) (R2 : List Fv) (n : Int) (w : World) (hR : rowOk w [.int .i64, .int .i64, .int .i64, .int .i64, .int .i64, .int .i64, .int .i64, .int .i64, .int .i64, .int .i64] R) (hr : RS w A 13 (L.map (·.map Fv.val))) (hn : L.length * 112 ≤ 140737488351232)
    (hL : ∀ r ∈ L, rowOk w [.int .i64, .int .i64, .int .i64, .int .i64, .int .u64, .int .u64, .int .u64, .int .u64, .int .i64, .str, .int .i64, .int .i64, .int .u64] r) (hxc : L.length ≤ c) (hcm : c ≤ 9223372036854775807) (hR2 : rowOk w [.int .i64, .int .i64, .int .i64, .int .i64, .int .u64, .int .u64, .int .u64, .int .u64, .int .i64, .str, .int .i64, .int .i64, .int .u64] R2) (hu : 0 ≤ n ∧ n ≤ 65535) (hl : laidMetH Tryd.prog Rows.scriptBackRow.laid w) (hsh : w.ShapedOpen Tryd.prog) :
    Calls Tryd.prog 8 #[.agg (R.map Fv.val).toArray, .slice A L.length c, .agg (R2.map Fv.val).toArray, .int .u16 n] w (Yes w) := by
  obtain ⟨zs, e1, e2, e3⟩ := set_of hR
  obtain ⟨xs, e4, e5⟩ := acts_of hL
  obtain ⟨a, e7, e8⟩ := act_of hR2
  obtain ⟨m, rfl⟩ := Int.eq_ofNat_of_zero_le hu.1
  have e6 : L.length = xs.length := by have := congrArg List.length e4; simpa using this
  rw [e4] at hr
  rw [e1, e6, e7]
  have hE := envR_of hl (by kernel_rfl) hsh (by simp [Rows.scriptBackRow]) (by simp [Rows.scriptBackRow]) (by simp [Rows.scriptBackRow]) (by simp [Rows.scriptBackRow])
  by_cases h : (scriptSays zs xs).2 = 0
  · exact walkBackGood zs e2 e3 A c xs a e8 m (by omega) w (by omega) (by omega) hcm e5 hr hE h
  · exact walkBackBad zs e2 e3 A c xs a e8 m (by omega) w (by omega) (by omega) hcm e5 hr hE h
end Go.Proofs.YtcinohmhhglpjaaDoor
