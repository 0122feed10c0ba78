/- Walk of ScriptWrites; what the law's argument is as acts; answers. -/
import Derived.Test.YtcinohmhhglpjaaDoorScrS
import Derived.Test.YtcinohmhhglpjaaDoorRowS
import Derived.Test.YtcinohmhhglpjaaDoorLaid
import Derived.Test.YtcinohmhhglpjaaDoorPlanE
import Derived.Test.YtcinohmhhglpjaaDoorVals
namespace Go.Proofs.YtcinohmhhglpjaaDoor
open Go.RowKit

theorem env_of {l : List (String × DataW Unit)} {w : World} (h : laidMetH Tryd.prog l w) (hp : (l.all fun x => x.2.handleName?.isNone) = true)
    (h1 : ("internal/strconv.uint64pow10", Rows.laid_internal_strconv_uint64pow10) ∈ l) (h2 : ("scupper/script.words", Rows.laid_scupper_script_words) ∈ l) : Env w.heap.size w := by
  rw [MakeChecks.laidMetH_plain _ _ _ hp] at h
  have t1 := tab_of_laid (g := 2) (t := 151) (e := 31) (m := 20) (zs := Lib.pow10Tab) (k := .u64) h h1 (by kernel_rfl) (by kernel_rfl) (by kernel_rfl) (by kernel_rfl) (by kernel_rfl) (by kernel_rfl)
  have t2 := strs_of_laid (g := 0) (t := 75) (e := 9) (m := 19) (zs := (List.range 19).map kindWord) h h2 (by kernel_rfl) (by kernel_rfl) (by kernel_rfl) (by kernel_rfl) (by kernel_rfl) (by kernel_rfl)
  refine ⟨fun w' hb => var_below t1 hb, fun w' hb => ?_⟩
  have := var_below t2 hb
  rw [List.map_map] at this
  exact this

/-- A setting, and acts, as they came in. -/
theorem set_of {W : World} {R : List Fv} (h : rowOk W [.int .i64, .int .i64, .int .i64, .int .i64, .int .i64, .int .i64, .int .i64, .int .i64, .int .i64, .int .i64] R) : ∃ zs : List Int, R.map Fv.val = zs.map (Value.int .i64) ∧ zs.length = 10 ∧ ∀ z ∈ zs, -9223372036854775808 ≤ z ∧ z ≤ 9223372036854775807 := by
  have key : ∀ (n : Nat) (R : List Fv), rowOk W (List.replicate n (.int .i64)) R → ∃ zs : List Int, R.map Fv.val = zs.map (Value.int .i64) ∧ zs.length = n ∧ ∀ z ∈ zs, -9223372036854775808 ≤ z ∧ z ≤ 9223372036854775807 := by
    intro n
    induction n with
    | zero =>
      intro R h
      cases R with
      | nil => exact ⟨[], rfl, rfl, by simp⟩
      | cons _ _ => exact h.elim
    | succ n ih =>
      intro R h
      cases R with
      | nil => exact h.elim
      | cons v R =>
        obtain ⟨h1, h2⟩ := h
        obtain ⟨zs, e1, e2, e3⟩ := ih R h2
        cases v with
        | int k z =>
          obtain ⟨rfl, hz⟩ := h1
          have := i64_of_wf hz
          exact ⟨z :: zs, by simp [e1, Fv.val], by simp [e2], fun x hx => by
            rcases List.mem_cons.1 hx with rfl | hx
            · exact this
            · exact e3 x hx⟩
        | _ => exact h1.elim
  exact key 10 R h
theorem act_of {W : World} {R : List Fv} (h : rowOk W [.int .i64, .int .i64, .int .i64, .int .i64, .int .u64, .int .u64, .int .u64, .int .u64, .int .i64, .str, .int .i64, .int .i64, .int .u64] R) : ∃ a : Ap, R.map Fv.val = a.cells ∧ a.wf := by
  match R, h with
  | [.int _ k, .int _ a, .int _ b, .int _ n, .int _ d, .int _ m, .int _ s, .int _ q, .int _ o, .str y, .int _ am, .int _ sp, .int _ le], ⟨⟨rfl, h0⟩, ⟨rfl, h1⟩, ⟨rfl, h2⟩, ⟨rfl, h3⟩, ⟨rfl, h4⟩, ⟨rfl, h5⟩, ⟨rfl, h6⟩, ⟨rfl, h7⟩, ⟨rfl, h8⟩, h9, ⟨rfl, h10⟩, ⟨rfl, h11⟩, ⟨rfl, h12⟩, _⟩ =>
    exact ⟨⟨k, a, b, n, d, m, ⟨s, q, o, y, am, sp, le⟩⟩, rfl, ⟨(i64_of_wf h0).1, (i64_of_wf h0).2, (i64_of_wf h1).1, (i64_of_wf h1).2, (i64_of_wf h2).1, (i64_of_wf h2).2, (i64_of_wf h3).1, (i64_of_wf h3).2, (u64_of_wf h4).1, (u64_of_wf h4).2, (u64_of_wf h5).1, (u64_of_wf h5).2,
      ⟨(u64_of_wf h6).1, (u64_of_wf h6).2, (u64_of_wf h7).1, (u64_of_wf h7).2, (i64_of_wf h8).1, (i64_of_wf h8).2, (i64_of_wf h10).1, (i64_of_wf h10).2, (i64_of_wf h11).1, (i64_of_wf h11).2, (u64_of_wf h12).1, (u64_of_wf h12).2, Nat.le_trans h9 (by decide)⟩⟩⟩
theorem acts_of {W : World} : ∀ {L : List (List Fv)}, (∀ r ∈ L, rowOk W [.int .i64, .int .i64, .int .i64, .int .i64, .int .u64, .int .u64, .int .u64, .int .u64, .int .i64, .str, .int .i64, .int .i64, .int .u64] r) → ∃ xs : List Ap, L.map (·.map Fv.val) = xs.map Ap.cells ∧ ∀ a ∈ xs, a.wf
  | [], _ => ⟨[], rfl, by simp⟩
  | r :: L, h => by
    obtain ⟨a, h1, h2⟩ := act_of (h r (List.mem_cons_self ..))
    obtain ⟨xs, h3, h4⟩ := acts_of (L := L) (fun x hx => h x (List.mem_cons_of_mem _ hx))
    exact ⟨a :: xs, by rw [List.map_cons, List.map_cons, h1, h3], fun x hx => by
      rcases List.mem_cons.1 hx with rfl | hx
      · exact h2
      · exact h4 x hx⟩

theorem ans_line : Ap.line ⟨2, 0, 0, 100, 15, 0, ⟨0, 0, 0, [], 0, 0, 0⟩⟩ = [112, 97, 115, 115, 32, 48, 32, 48, 32, 49, 48, 48, 32, 49, 53, 32, 48, 32, 48, 32, 48, 32, 48, 32, 120, 32, 48, 32, 48, 32, 48] := by
  have d0 : Lib.decDigits 0 = [48] := Lib.decDigits_one (by decide)
  have d15 : Lib.decDigits 15 = [49, 53] := Lib.decDigits_two (by decide) (by decide)
  have d100 : Lib.decDigits 100 = [49, 48, 48] := by
    rw [dec_step (by decide)]
    rw [show (100 : Nat) / 10 = 10 by decide, Lib.decDigits_two (by decide) (by decide)]
    rfl
  simp [Ap.line, Cm.words, udec, Lib.itoa, d0, d15, d100, tailw, hexs, kindWord]

set_option maxRecDepth 20000 in
set_option maxHeartbeats 2000000 in
theorem scrAnswers (w : World) (hE : Env w.heap.size w) : Calls Tryd.prog 11 #[] w fun e w' => e = .returned (.bool true) ∧ Below w.heap.size w w' := by
  have C := Lib.hid (scrAct ⟨2, 0, 0, 100, 15, 0, ⟨0, 0, 0, [], 0, 0, 0⟩⟩ ⟨by decide, by decide, by decide, by decide, by decide, by decide, by decide, by decide, by decide, by decide, by decide, by decide, ⟨by decide, by decide, by decide, by decide, by decide, by decide, by decide, by decide, by decide, by decide, by decide, by decide, by decide⟩⟩ w hE)
  unfold ActE at C
  rw [show Ap.ok ⟨2, 0, 0, 100, 15, 0, ⟨0, 0, 0, [], 0, 0, 0⟩⟩ = true from rfl, ans_line] at C
  simp only [if_true] at C
  unfold Ap.cells Cm.cells at C
  simp only [List.cons_append, List.nil_append] at C
  clear hE
  go_enter Tryd.func11, Tryd.ntmps11
  go_wp2_with (go_at_call 12; refine C.out.mono ?_)
  rintro e w1 ⟨rfl, hb1⟩
  go_wp2_with fail
  go_ret
  exact ⟨rfl, hb1⟩

theorem act_info : (Tryd.prog.info? 35).map (fun i => (i.zero, i.size, i.bytes)) = some (some (.agg #[.int .i64 0, .int .i64 0, .int .i64 0, .int .i64 0, .int .u64 0, .int .u64 0, .int .u64 0, .int .u64 0, .int .i64 0, .string ⟨#[]⟩, .int .i64 0, .int .i64 0, .int .u64 0]), 13, 112) := by kernel_rfl
theorem cells_rows (xs : List Ap) : (∀ r ∈ xs.map Ap.cells, r.length = 13) ∧ (∀ r ∈ xs.map Ap.cells, ∀ v ∈ r, v.oneCell' = true) := by
  constructor
  · intro r hr
    obtain ⟨a, _, rfl⟩ := List.mem_map.1 hr
    rfl
  · intro r hr v hv
    obtain ⟨a, _, rfl⟩ := List.mem_map.1 hr
    simp only [Ap.cells, Cm.cells, List.cons_append, List.nil_append, List.mem_cons, List.not_mem_nil, or_false] at hv
    rcases hv with rfl | rfl | rfl | rfl | rfl | rfl | rfl | rfl | rfl | rfl | rfl | rfl | rfl <;> rfl

set_option maxRecDepth 20000 in
set_option maxHeartbeats 4000000 in
theorem walkScriptWrites' (zs : List Int) (h10 : zs.length = 10) (hz : ∀ z ∈ zs, -9223372036854775808 ≤ z ∧ z ≤ 9223372036854775807) (A : Option Addr) (c : Nat) (xs : List Ap) (w : World) (hn : xs.length * 112 ≤ 140737488351232) (ha : ∀ a ∈ xs, a.wf) (hr : RS w A 13 (xs.map Ap.cells)) (hE : Env w.heap.size w) :
    Calls Tryd.prog 3 #[.agg (zs.map (Value.int .i64)).toArray, .slice A xs.length c] w (Yes w) := by
  obtain ⟨i0, hi, hz0, hz1, hz2⟩ := info_parts act_info
  obtain ⟨hcr1, hcr2⟩ := cells_rows xs
  have HCR1 := Lib.hid hcr1
  have HCR2 := Lib.hid hcr2
  have CS := Lib.hid (fun A' c' (k : List Ap) (hk : k = xs) w' hr' hE' => hk ▸ scrScript zs h10 hz A' c' k (by subst hk; omega) (hk ▸ ha) w' hr' hE')
  have CR := Lib.hid (fun w' hr' => refScript zs h10 hz A c xs (by omega) ha w' hr')
  have HE := Lib.hid hE
  have HR := Lib.hid hr
  unfold ScriptE at CS CR
  generalize (scriptSays zs xs).1 = tx at CS CR
  generalize (scriptSays zs xs).2 = er at CS CR
  obtain ⟨z0, z1, z2, z3, z4, z5, z6, z7, z8, z9, rfl⟩ := ten h10
  clear h10 hz ha hr hE hcr1 hcr2
  simp only [List.map_cons, List.map_nil] at *
  obtain ⟨w0, hw0⟩ : ∃ w0, w0 = (w.alloc (.cells #[.int .i64 z0, .int .i64 z1, .int .i64 z2, .int .i64 z3, .int .i64 z4, .int .i64 z5, .int .i64 z6, .int .i64 z7, .int .i64 z8, .int .i64 z9] 23)) := ⟨_, rfl⟩
  have HB0 : Hid (Below w.heap.size w w0) := Lib.hid (by rw [hw0]; exact (Below.refl _ _).alloc (Nat.le_refl _) _)
  have HS0 : Hid (Blk w0 w.heap.size 23 #[.int .i64 z0, .int .i64 z1, .int .i64 z2, .int .i64 z3, .int .i64 z4, .int .i64 z5, .int .i64 z6, .int .i64 z7, .int .i64 z8, .int .i64 z9]) := Lib.hid (by rw [hw0]; exact Blk.new _ _ _)
  go_enter Tryd.func3, Tryd.ntmps3
  go_wp2_with fail
  rw [← hw0]
  clear hw0
  refine wp_region_planE_gen (by kernel_rfl) [(0, none), (2, none), (1, some []), (3, some [2]), (4, some [0]), (5, none), (6, none), (7, none), (8, none), (9, none)] (by kernel_rfl) (by kernel_rfl) (by decide) ?_
  intro wq hwq
  have hq0 : Below w0.heap.size w0 wq := by rw [hwq]; exact (Below.refl _ _).drew
  have HBQ := Lib.hid (HB0.out.trans (hq0.mono HB0.out.size))
  have HSQ := Lib.hid (HS0.out.kept hq0)
  clear hwq hq0 HB0 HS0
  have s0 := HSQ.out.cell 0 rfl
  have s1 := HSQ.out.cell 1 rfl
  have s2 := HSQ.out.cell 2 rfl
  have s3 := HSQ.out.cell 3 rfl
  have s4 := HSQ.out.cell 4 rfl
  have s5 := HSQ.out.cell 5 rfl
  have s6 := HSQ.out.cell 6 rfl
  have s7 := HSQ.out.cell 7 rfl
  have s8 := HSQ.out.cell 8 rfl
  have s9 := HSQ.out.cell 9 rfl
  refine planE_cells (v := ?_) [(⟨w.heap.size, 0, none⟩, .int .i64 z0), (⟨w.heap.size, 1, none⟩, .int .i64 z1), (⟨w.heap.size, 2, none⟩, .int .i64 z2), (⟨w.heap.size, 3, none⟩, .int .i64 z3), (⟨w.heap.size, 4, none⟩, .int .i64 z4), (⟨w.heap.size, 5, none⟩, .int .i64 z5), (⟨w.heap.size, 6, none⟩, .int .i64 z6), (⟨w.heap.size, 7, none⟩, .int .i64 z7), (⟨w.heap.size, 8, none⟩, .int .i64 z8), (⟨w.heap.size, 9, none⟩, .int .i64 z9)] (by simp; and_intros <;> assumption) rfl (by rfl) (fun w' hw' => ?_) ?_; rotate_left; (focus (simp only [List.forall_mem_cons, List.not_mem_nil, false_imp_iff, implies_true, and_true] at hw'; simp only [List.getElem_toArray, List.getElem_cons_succ, List.getElem_cons_zero]; go_simp; first | with_reducible rfl | (simp (disch := omega) only [if_pos, if_neg, dif_pos, Result.andThen_ok]; try with_reducible rfl) | skip)); try simp only [List.getElem_toArray, List.getElem_cons_succ, List.getElem_cons_zero, Act.put, List.setIfInBounds_toArray, List.set_cons_zero, List.set_cons_succ]
  iterate 1 (refine planE_pure (v := ?_) rfl (by rfl) (fun w' => ?_) ?_; rotate_left; (focus (simp only [List.getElem_toArray, List.getElem_cons_succ, List.getElem_cons_zero]; go_simp; first | with_reducible rfl | (simp (disch := omega) only [if_pos, if_neg, dif_pos, Result.andThen_ok]; try with_reducible rfl) | skip)); try simp only [List.getElem_toArray, List.getElem_cons_succ, List.getElem_cons_zero, Act.put, List.setIfInBounds_toArray, List.set_cons_zero, List.set_cons_succ])
  refine planE_eff rfl (by rfl) (fun K hK => ?_)
  go_simp
  have hq1 : Below wq.heap.size wq (wq.alloc (.cells #[] 35)) := (Below.refl _ _).alloc (Nat.le_refl _) _
  have HB1 := Lib.hid (HBQ.out.trans (hq1.mono HBQ.out.size))
  have HS1 := Lib.hid (HSQ.out.kept hq1)
  have HR1 := Lib.hid (HR.out.below HB1.out)
  have hne := HSQ.out.lt
  have HO1 := Lib.hid (OR.made0 wq (base := w.heap.size) 35 13 HBQ.out.size)
  have hbw := HBQ.out.size
  clear hq1 HBQ HSQ s0 s1 s2 s3 s4 s5 s6 s7 s8 s9
  have s0 := HS1.out.cell 0 rfl
  have s1 := HS1.out.cell 1 rfl
  have s2 := HS1.out.cell 2 rfl
  have s3 := HS1.out.cell 3 rfl
  have s4 := HS1.out.cell 4 rfl
  have s5 := HS1.out.cell 5 rfl
  have s6 := HS1.out.cell 6 rfl
  have s7 := HS1.out.cell 7 rfl
  have s8 := HS1.out.cell 8 rfl
  have s9 := HS1.out.cell 9 rfl
  refine hK _ _ (by simp [owed, left] <;> (and_intros <;> first | trivial | assumption)) ?_
  clear hK K
  try simp only [List.getElem_toArray, List.getElem_cons_succ, List.getElem_cons_zero, Act.put, List.setIfInBounds_toArray, List.set_cons_zero, List.set_cons_succ]
  refine planE_eff rfl (by rfl) (fun K hK => ?_)
  refine op_appendS _ (.tmp 11) (.tmp 12) 24 35 (by rfl) Tryd.underlying24 hi hz0 hz1 hz2 rfl (by decide) w.heap.size (some ⟨wq.heap.size, 0, none⟩) A 0 c [] (xs.map Ap.cells) (by rfl) ?v1 HO1.out HR1.out HCR1.out HCR2.out (by simp; omega) (by simp; omega) HB1.out.size ?_
  case v1 => rw [List.length_map]; rfl
  intro ys A' c' w2 hk _ _ HO2 hg2 _
  have ey : ys = xs.map Ap.cells := by rw [hk.out]; rfl
  subst ey
  rw [List.length_map]
  have HB2 := Lib.hid (HB1.out.grown hg2 HB1.out.size (fun k hk => by simp at hk; omega))
  have HS2 := Lib.hid (HS1.out.grown hg2 (by simp; omega))
  have HR2 := Lib.hid HO2.rs
  have HE2 := Lib.hid ((HE.out.below HB2.out).up HB2.out.size)
  clear hg2 HO2 HO1 HB1 HS1 HR1 hk s0 s1 s2 s3 s4 s5 s6 s7 s8 s9
  have s0 := HS2.out.cell 0 rfl
  have s1 := HS2.out.cell 1 rfl
  have s2 := HS2.out.cell 2 rfl
  have s3 := HS2.out.cell 3 rfl
  have s4 := HS2.out.cell 4 rfl
  have s5 := HS2.out.cell 5 rfl
  have s6 := HS2.out.cell 6 rfl
  have s7 := HS2.out.cell 7 rfl
  have s8 := HS2.out.cell 8 rfl
  have s9 := HS2.out.cell 9 rfl
  refine hK _ _ (by simp [owed, left] <;> (and_intros <;> first | trivial | assumption)) ?_
  clear hK K
  try simp only [List.getElem_toArray, List.getElem_cons_succ, List.getElem_cons_zero, Act.put, List.setIfInBounds_toArray, List.set_cons_zero, List.set_cons_succ]
  refine planE_eff rfl (by rfl) (fun K hK => ?_)
  go_simp
  refine (CS.out A' c' xs rfl _ HR2.out HE2.out).mono ?_
  rintro e w3 ⟨rfl, hb3⟩
  have HB3 := Lib.hid (HB2.out.trans (hb3.mono HB2.out.size))
  have HS3 := Lib.hid (HS2.out.kept hb3)
  clear hb3 HB2 HS2 HR2 HE2 s0 s1 s2 s3 s4 s5 s6 s7 s8 s9
  refine hK _ _ (by simp [owed, left] <;> (and_intros <;> first | trivial | assumption)) ?_
  clear hK K
  try simp only [List.getElem_toArray, List.getElem_cons_succ, List.getElem_cons_zero, Act.put, List.setIfInBounds_toArray, List.set_cons_zero, List.set_cons_succ]
  iterate 5 (refine planE_pure (v := ?_) rfl (by rfl) (fun w' => ?_) ?_; rotate_left; (focus (simp only [List.getElem_toArray, List.getElem_cons_succ, List.getElem_cons_zero]; go_simp; first | with_reducible rfl | (simp (disch := omega) only [if_pos, if_neg, dif_pos, Result.andThen_ok]; try with_reducible rfl) | skip)); try simp only [List.getElem_toArray, List.getElem_cons_succ, List.getElem_cons_zero, Act.put, List.setIfInBounds_toArray, List.set_cons_zero, List.set_cons_succ])
  refine planE_end ?_
  have HR3 := Lib.hid (HR.out.below HB3.out)
  have s0 := HS3.out.cell 0 rfl
  have s1 := HS3.out.cell 1 rfl
  have s2 := HS3.out.cell 2 rfl
  have s3 := HS3.out.cell 3 rfl
  have s4 := HS3.out.cell 4 rfl
  have s5 := HS3.out.cell 5 rfl
  have s6 := HS3.out.cell 6 rfl
  have s7 := HS3.out.cell 7 rfl
  have s8 := HS3.out.cell 8 rfl
  have s9 := HS3.out.cell 9 rfl
  go_wp2_with (go_at_call 10; refine (CR.out _ HR3.out).mono ?_)
  first | rintro e w4 rfl hb4 | rintro e w4 ⟨rfl, hb4⟩
  have HB4 := Lib.hid (HB3.out.trans (hb4.mono HB3.out.size))
  have HE4 := Lib.hid ((HE.out.below HB4.out).up HB4.out.size)
  clear hb4 s0 s1 s2 s3 s4 s5 s6 s7 s8 s9 HS3 HR3
  go_wp2_with (go_at_call 11; refine (scrAnswers _ HE4.out).mono ?_)
  first | rintro e w5 rfl hb5 | rintro e w5 ⟨rfl, hb5⟩
  go_wp2_with fail
  go_ret
  exact ⟨rfl, HB4.out.trans (hb5.mono HB4.out.size)⟩

theorem walkScriptWrites (R : List Fv) (A : Option Addr) (c : Nat) (L : List (List Fv)) (w : World) (hR : rowOk w [.int .i64, .int .i64, .int .i64, .int .i64, .int .i64, .int .i64, .int .i64, .int .i64, .int .i64, .int .i64] R) (hr : RS w A 13 (L.map (·.map Fv.val))) (hn : L.length * 112 ≤ 140737488351232)
    (hL : ∀ r ∈ L, rowOk w [.int .i64, .int .i64, .int .i64, .int .i64, .int .u64, .int .u64, .int .u64, .int .u64, .int .i64, .str, .int .i64, .int .i64, .int .u64] r) (hl : laidMetH Tryd.prog Rows.scriptWritesRow.laid w) :
    Calls Tryd.prog 3 #[.agg (R.map Fv.val).toArray, .slice A L.length c] w (Yes w) := by
  obtain ⟨zs, e1, e2, e3⟩ := set_of hR
  obtain ⟨xs, e4, e5⟩ := acts_of hL
  have e6 : L.length = xs.length := by have := congrArg List.length e4; simpa using this
  rw [e4] at hr
  rw [e1, e6]
  exact walkScriptWrites' zs e2 e3 A c xs w (by omega) e5 hr (env_of hl (by kernel_rfl) (by simp [Rows.scriptWritesRow]) (by simp [Rows.scriptWritesRow]))
end Go.Proofs.YtcinohmhhglpjaaDoor
