/- Walk of ScriptBack (printed by gen_wscrb.py). -/
import Derived.Test.YtcinohmhhglpjaaDoorWScrS
import Derived.Test.YtcinohmhhglpjaaDoorScrTT
import Derived.Test.YtcinohmhhglpjaaDoorScrRw
namespace Go.Proofs.YtcinohmhhglpjaaDoor
open Go.RowKit

theorem set_eq (z0 z1 z2 z3 z4 z5 z6 z7 z8 z9 : Int) (w : World) : (Op.equalIn 10000 23 (.agg #[.int .i64 z0, .int .i64 z1, .int .i64 z2, .int .i64 z3, .int .i64 z4, .int .i64 z5, .int .i64 z6, .int .i64 z7, .int .i64 z8, .int .i64 z9]) (.agg #[.int .i64 z0, .int .i64 z1, .int .i64 z2, .int .i64 z3, .int .i64 z4, .int .i64 z5, .int .i64 z6, .int .i64 z7, .int .i64 z8, .int .i64 z9])).run Tryd.prog w = .ok true w := by
  have u1 := Tryd.underlying3
  have a1 := Tryd.isAgg3
  have z1' := Tryd.sizeOf3
  have u2 := Tryd.underlying2
  have a2 := Tryd.isAgg2
  have z2' := Tryd.sizeOf2
  have hS := Tryd.underlying23
  rw [show (10000 : Nat) = 9999 + 1 from rfl]
  unfold Op.equalIn
  simp only [Sem.run_bind, run_underlying hS, Result.andThen_ok]
  go_simp
/-- What the reference's Act answers, by its form alone. -/
def RefActA (ao : Bool) (ln : List UInt8) (w : World) (e : Ending) (w' : World) : Prop := ∃ lx : List UInt8, e = .returned (.tuple #[.string ⟨lx.toArray⟩, .bool ao]) ∧ (ao = true → lx = ln) ∧ Below w.heap.size w w'
theorem refActA (a : Ap) (ha : a.wf) (w : World) : Calls Tryd.prog 13 #[.agg a.cells.toArray] w (RefActA a.ok a.line w) :=
  (refAct a ha w).mono fun e w' h => ⟨_, h.1, fun h => by rw [if_pos h], h.2⟩
theorem take_ext (s : List UInt8) (k : Nat) : (⟨s.toArray⟩ : ByteArray).extract 0 k = ⟨(s.take k).toArray⟩ := by
  apply ByteArray.ext
  apply Array.toList_inj.1
  rw [Lib.extract_data]
  simp
theorem last_at (xs : List Ap) (a : Ap) (h : xs.length < (xs ++ [a]).length) : (xs ++ [a])[xs.length] = a := by simp
theorem says_err (zs : List Int) (xs : List Ap) : (scriptSays zs xs).2 = 0 ∨ (scriptSays zs xs).2 = 7 ∨ (scriptSays zs xs).2 = 2 := by
  unfold scriptSays
  split
  · split
    · exact .inl rfl
    · exact .inr (.inl rfl)
  · exact .inr (.inr rfl)

set_option maxRecDepth 20000 in
set_option maxHeartbeats 8000000 in
theorem walkBackBad (zs : List Int) (h10 : zs.length = 10) (hz : ∀ z ∈ zs, -9223372036854775808 ≤ z ∧ z ≤ 9223372036854775807) (A : Option Addr) (c : Nat) (xs : List Ap) (a : Ap) (haw : a.wf) (n : Nat) (hcu : n < 65536) (w : World) (hn : xs.length * 112 ≤ 140737488351232) (hxc : xs.length ≤ c) (hcm : c ≤ 9223372036854775807) (ha : ∀ a ∈ xs, a.wf) (hr : RS w A 13 (xs.map Ap.cells)) (hE : EnvR w.heap.size w) (h : (scriptSays zs xs).2 ≠ 0) :
    Calls Tryd.prog 8 #[.agg (zs.map (Value.int .i64)).toArray, .slice A xs.length c, .agg a.cells.toArray, .int .u16 (n : Int)] w (Yes w) := by
  obtain ⟨i0, hi, hz0, hz1, hz2⟩ := info_parts act_info
  obtain ⟨hcr1, hcr2⟩ := cells_rows xs
  have HCR1 := Lib.hid hcr1
  have HCR2 := Lib.hid hcr2
  have CS := Lib.hid (fun A' c' (k : List Ap) (hk : k = xs) w' hr' hE' => hk ▸ scrScript zs h10 hz A' c' k (by subst hk; omega) (hk ▸ ha) w' hr' hE')
  have CR := Lib.hid (refActA a haw)
  have HE := Lib.hid hE
  have HR := Lib.hid hr
  have hse := says_err zs xs
  unfold ScriptE at CS
  generalize (scriptSays zs xs).1 = tx at *
  generalize (scriptSays zs xs).2 = er at *
  generalize a.ok = ao at *
  generalize a.line = ln at *
  have hnb : (er != 0) = true := by rw [bne_iff_ne]; exact h
  clear hse
  obtain ⟨z0, z1, z2, z3, z4, z5, z6, z7, z8, z9, rfl⟩ := ten h10
  obtain ⟨kind, ka, kb, kn, kdraw, kmask, ⟨ses, seq, op, key, amount, span, lease⟩⟩ := a
  clear h10 hz ha hr hE hcr1 hcr2 haw
  unfold Ap.cells Cm.cells at *
  simp only [List.cons_append, List.nil_append] at *
  simp only [List.map_cons, List.map_nil] at *
  obtain ⟨w0, hw0⟩ : ∃ w0, w0 = (w.alloc (.cells #[.int .i64 z0, .int .i64 z1, .int .i64 z2, .int .i64 z3, .int .i64 z4, .int .i64 z5, .int .i64 z6, .int .i64 z7, .int .i64 z8, .int .i64 z9] 23)).alloc (.cells #[.int .i64 kind, .int .i64 ka, .int .i64 kb, .int .i64 kn, .int .u64 kdraw, .int .u64 kmask, .int .u64 ses, .int .u64 seq, .int .i64 op, .string ⟨key.toArray⟩, .int .i64 amount, .int .i64 span, .int .u64 lease] 35) := ⟨_, rfl⟩
  have HB0 : Hid (Below w.heap.size w w0) := Lib.hid (by rw [hw0]; exact ((Below.refl _ _).alloc (Nat.le_refl _) _).alloc (by simp) _)
  have HS0 : Hid (Blk w0 w.heap.size 23 #[.int .i64 z0, .int .i64 z1, .int .i64 z2, .int .i64 z3, .int .i64 z4, .int .i64 z5, .int .i64 z6, .int .i64 z7, .int .i64 z8, .int .i64 z9]) := Lib.hid (by rw [hw0]; exact (Blk.new w #[.int .i64 z0, .int .i64 z1, .int .i64 z2, .int .i64 z3, .int .i64 z4, .int .i64 z5, .int .i64 z6, .int .i64 z7, .int .i64 z8, .int .i64 z9] 23).kept ((Below.refl _ _).alloc (Nat.le_refl _) _))
  have HA0 : Hid (Blk w0 (w.heap.size + 1) 35 #[.int .i64 kind, .int .i64 ka, .int .i64 kb, .int .i64 kn, .int .u64 kdraw, .int .u64 kmask, .int .u64 ses, .int .u64 seq, .int .i64 op, .string ⟨key.toArray⟩, .int .i64 amount, .int .i64 span, .int .u64 lease]) := Lib.hid (by
    rw [hw0]
    have := Blk.new (w.alloc (.cells #[.int .i64 z0, .int .i64 z1, .int .i64 z2, .int .i64 z3, .int .i64 z4, .int .i64 z5, .int .i64 z6, .int .i64 z7, .int .i64 z8, .int .i64 z9] 23)) #[.int .i64 kind, .int .i64 ka, .int .i64 kb, .int .i64 kn, .int .u64 kdraw, .int .u64 kmask, .int .u64 ses, .int .u64 seq, .int .i64 op, .string ⟨key.toArray⟩, .int .i64 amount, .int .i64 span, .int .u64 lease] 35
    rw [show (w.alloc (.cells #[.int .i64 z0, .int .i64 z1, .int .i64 z2, .int .i64 z3, .int .i64 z4, .int .i64 z5, .int .i64 z6, .int .i64 z7, .int .i64 z8, .int .i64 z9] 23)).heap.size = w.heap.size + 1 from by simp] at this
    exact this)
  go_enter Tryd.func8, Tryd.ntmps8
  go_wp2_with fail
  rw [← hw0]
  clear hw0
  refine wp_region_planE_gen (by kernel_rfl) [(0, none), (2, none), (1, some []), (3, some [2]), (4, some [0]), (5, none), (6, none), (7, none), (8, none), (9, none)] (by kernel_rfl) (by kernel_rfl) (by decide) ?_
  intro wq hwq
  have hq0 : Below w0.heap.size w0 wq := by rw [hwq]; exact (Below.refl _ _).drew
  have HBQ := Lib.hid (HB0.out.trans (hq0.mono HB0.out.size))
  have HSQ := Lib.hid (HS0.out.kept hq0)
  have HAQ := Lib.hid (HA0.out.kept hq0)
  clear hwq hq0 HB0 HS0 HA0
  have s0 := HSQ.out.cell 0 rfl; have s1 := HSQ.out.cell 1 rfl; have s2 := HSQ.out.cell 2 rfl; have s3 := HSQ.out.cell 3 rfl; have s4 := HSQ.out.cell 4 rfl; have s5 := HSQ.out.cell 5 rfl; have s6 := HSQ.out.cell 6 rfl; have s7 := HSQ.out.cell 7 rfl; have s8 := HSQ.out.cell 8 rfl; have s9 := HSQ.out.cell 9 rfl
  refine planE_cells (v := ?_) [(⟨w.heap.size, 0, none⟩, .int .i64 z0), (⟨w.heap.size, 1, none⟩, .int .i64 z1), (⟨w.heap.size, 2, none⟩, .int .i64 z2), (⟨w.heap.size, 3, none⟩, .int .i64 z3), (⟨w.heap.size, 4, none⟩, .int .i64 z4), (⟨w.heap.size, 5, none⟩, .int .i64 z5), (⟨w.heap.size, 6, none⟩, .int .i64 z6), (⟨w.heap.size, 7, none⟩, .int .i64 z7), (⟨w.heap.size, 8, none⟩, .int .i64 z8), (⟨w.heap.size, 9, none⟩, .int .i64 z9)] (by simp; and_intros <;> assumption) rfl (by rfl) (fun w' hw' => ?_) ?_; rotate_left; (focus (simp only [List.forall_mem_cons, List.not_mem_nil, false_imp_iff, implies_true, and_true] at hw'; simp only [List.getElem_toArray, List.getElem_cons_succ, List.getElem_cons_zero]; go_simp; first | with_reducible rfl | (simp (disch := omega) only [if_pos, if_neg, dif_pos, Result.andThen_ok]; try with_reducible rfl) | skip)); try simp only [List.getElem_toArray, List.getElem_cons_succ, List.getElem_cons_zero, Act.put, List.setIfInBounds_toArray, List.set_cons_zero, List.set_cons_succ]
  iterate 1 (refine planE_pure (v := ?_) rfl (by rfl) (fun w' => ?_) ?_; rotate_left; (focus (simp only [List.getElem_toArray, List.getElem_cons_succ, List.getElem_cons_zero]; go_simp; first | with_reducible rfl | (simp (disch := omega) only [if_pos, if_neg, dif_pos, Result.andThen_ok]; try with_reducible rfl) | skip)); try simp only [List.getElem_toArray, List.getElem_cons_succ, List.getElem_cons_zero, Act.put, List.setIfInBounds_toArray, List.set_cons_zero, List.set_cons_succ])
  refine planE_eff rfl (by rfl) (fun K hK => ?_)
  go_simp
  have hq1 : Below wq.heap.size wq (wq.alloc (.cells #[] 35)) := (Below.refl _ _).alloc (Nat.le_refl _) _
  have HB1 := Lib.hid (HBQ.out.trans (hq1.mono HBQ.out.size))
  have HS1 := Lib.hid (HSQ.out.kept hq1)
  have HA1 := Lib.hid (HAQ.out.kept hq1)
  have HR1 := Lib.hid (HR.out.below HB1.out)
  have hne := HSQ.out.lt
  have hne2 := HAQ.out.lt
  have HO1 := Lib.hid (OR.made0 wq (base := w.heap.size) 35 13 HBQ.out.size)
  have hbw := HBQ.out.size
  clear hq1 HBQ HSQ HAQ
  clear s0 s1 s2 s3 s4 s5 s6 s7 s8 s9
  have s0 := HS1.out.cell 0 rfl; have s1 := HS1.out.cell 1 rfl; have s2 := HS1.out.cell 2 rfl; have s3 := HS1.out.cell 3 rfl; have s4 := HS1.out.cell 4 rfl; have s5 := HS1.out.cell 5 rfl; have s6 := HS1.out.cell 6 rfl; have s7 := HS1.out.cell 7 rfl; have s8 := HS1.out.cell 8 rfl; have s9 := HS1.out.cell 9 rfl
  refine hK _ _ (by simp [owed, left] <;> (and_intros <;> first | trivial | assumption)) ?_
  clear hK K
  try simp only [List.getElem_toArray, List.getElem_cons_succ, List.getElem_cons_zero, Act.put, List.setIfInBounds_toArray, List.set_cons_zero, List.set_cons_succ]
  refine planE_eff rfl (by rfl) (fun K hK => ?_)
  refine op_appendS _ (.tmp 28) (.tmp 29) 24 35 (by rfl) Tryd.underlying24 hi hz0 hz1 hz2 rfl (by decide) w.heap.size (some ⟨wq.heap.size, 0, none⟩) A 0 c [] (xs.map Ap.cells) (by rfl) ?v1 HO1.out HR1.out HCR1.out HCR2.out (by simp; omega) (by simp; omega) HB1.out.size ?_
  case v1 => rw [List.length_map]; rfl
  intro ys A' c' w2 hk _ _ HO2 hg2 _
  have ey : ys = xs.map Ap.cells := by rw [hk.out]; rfl
  subst ey
  rw [List.length_map]
  have HB2 := Lib.hid (HB1.out.grown hg2 HB1.out.size (fun k hk => by simp at hk; omega))
  have HS2 := Lib.hid (HS1.out.grown hg2 (by simp; omega))
  have HA2 := Lib.hid (HA1.out.grown hg2 (by simp; omega))
  have HR2 := Lib.hid HO2.rs
  have HE2 := Lib.hid ((HE.out.below HB2.out).up HB2.out.size)
  clear hg2 HO2 HO1 HB1 HS1 HA1 HR1 hk
  clear s0 s1 s2 s3 s4 s5 s6 s7 s8 s9
  have s0 := HS2.out.cell 0 rfl; have s1 := HS2.out.cell 1 rfl; have s2 := HS2.out.cell 2 rfl; have s3 := HS2.out.cell 3 rfl; have s4 := HS2.out.cell 4 rfl; have s5 := HS2.out.cell 5 rfl; have s6 := HS2.out.cell 6 rfl; have s7 := HS2.out.cell 7 rfl; have s8 := HS2.out.cell 8 rfl; have s9 := HS2.out.cell 9 rfl
  refine hK _ _ (by simp [owed, left] <;> (and_intros <;> first | trivial | assumption)) ?_
  clear hK K
  try simp only [List.getElem_toArray, List.getElem_cons_succ, List.getElem_cons_zero, Act.put, List.setIfInBounds_toArray, List.set_cons_zero, List.set_cons_succ]
  refine planE_eff rfl (by rfl) (fun K hK => ?_)
  go_simp
  refine (CS.out A' c' xs rfl _ HR2.out HE2.out.env).mono ?_
  rintro e w3 ⟨rfl, hb3⟩
  have HB3 := Lib.hid (HB2.out.trans (hb3.mono HB2.out.size))
  have HS3 := Lib.hid (HS2.out.kept hb3)
  have HA3 := Lib.hid (HA2.out.kept hb3)
  clear hb3 HB2 HS2 HA2 HR2 HE2
  clear s0 s1 s2 s3 s4 s5 s6 s7 s8 s9
  refine hK _ _ (by simp [owed, left] <;> (and_intros <;> first | trivial | assumption)) ?_
  clear hK K
  try simp only [List.getElem_toArray, List.getElem_cons_succ, List.getElem_cons_zero, Act.put, List.setIfInBounds_toArray, List.set_cons_zero, List.set_cons_succ]
  iterate 5 (refine planE_pure (v := ?_) rfl (by rfl) (fun w' => ?_) ?_; rotate_left; (focus (simp only [List.getElem_toArray, List.getElem_cons_succ, List.getElem_cons_zero]; go_simp; first | with_reducible rfl | (simp (disch := omega) only [if_pos, if_neg, dif_pos, Result.andThen_ok]; try with_reducible rfl) | skip)); try simp only [List.getElem_toArray, List.getElem_cons_succ, List.getElem_cons_zero, Act.put, List.setIfInBounds_toArray, List.set_cons_zero, List.set_cons_succ])
  refine planE_end ?_
  have x0 := HA3.out.cell 0 rfl; have x1 := HA3.out.cell 1 rfl; have x2 := HA3.out.cell 2 rfl; have x3 := HA3.out.cell 3 rfl; have x4 := HA3.out.cell 4 rfl; have x5 := HA3.out.cell 5 rfl; have x6 := HA3.out.cell 6 rfl; have x7 := HA3.out.cell 7 rfl; have x8 := HA3.out.cell 8 rfl; have x9 := HA3.out.cell 9 rfl; have x10 := HA3.out.cell 10 rfl; have x11 := HA3.out.cell 11 rfl; have x12 := HA3.out.cell 12 rfl
  go_wp2_with (go_at_call 13; refine (CR.out _).mono ?_)
  intro e w4 hpp; unfold RefActA at hpp; obtain ⟨lx, rfl, hlx, hb4⟩ := hpp
  have HLX := Lib.hid hlx
  have HB4 := Lib.hid (HB3.out.trans (hb4.mono HB3.out.size))
  have HS4 := Lib.hid (HS3.out.kept hb4)
  have HA4 := Lib.hid (HA3.out.kept hb4)
  have HE4 := Lib.hid ((HE.out.below HB4.out).up HB4.out.size)
  clear x0 x1 x2 x3 x4 x5 x6 x7 x8 x9 x10 x11 x12
  clear hb4 HB3 HS3 HA3 hlx
  go_wp2_with (go_at_call 11; refine (scrAnswers _ HE4.out.env).mono ?_)
  first | rintro e w5 rfl hb5 | rintro e w5 ⟨rfl, hb5⟩
  have HB5 := Lib.hid (HB4.out.trans (hb5.mono HB4.out.size))
  have HS5 := Lib.hid (HS4.out.kept hb5)
  have HA5 := Lib.hid (HA4.out.kept hb5)
  have HE5 := Lib.hid ((HE.out.below HB5.out).up HB5.out.size)
  clear hb5 HB4 HS4 HA4 HE4
  go_wp2_with (go_at_call 11; refine (scrAnswers _ HE5.out.env).mono ?_)
  first | rintro e w6 rfl hb6 | rintro e w6 ⟨rfl, hb6⟩
  have HB6 := Lib.hid (HB5.out.trans (hb6.mono HB5.out.size))
  go_wp2_with fail
  go_ret
  exact ⟨rfl, HB6.out⟩
end Go.Proofs.YtcinohmhhglpjaaDoor
