/- Contracts of package script: commanded, Act, setting. -/
import Derived.Test.YtcinohmhhglpjaaDoorScrD
namespace Go.Proofs.YtcinohmhhglpjaaDoor
open Go.RowKit

/-- An act's cells. -/
def Ap.cells (a : Ap) : List Value := [.int .i64 a.kind, .int .i64 a.a, .int .i64 a.b, .int .i64 a.n, .int .u64 a.draw, .int .u64 a.mask] ++ a.cmd.cells

set_option maxRecDepth 20000 in
set_option maxHeartbeats 4000000 in
theorem scrCommanded (c : Cm) (hw : c.wf) (w : World) :
    Calls Tryd.prog 27 #[.agg c.cells.toArray] w fun e w' => e = .returned (.bool c.ok) ∧ Below w.heap.size w w' := by
  have hkl := hw.keyl
  have ho0 := hw.op0
  have ho1 := hw.op1
  unfold Cm.cells
  by_cases h1 : c.key.length ≤ 64
  · by_cases h2 : 0 ≤ c.op
    · by_cases h3 : c.op ≤ 5
      · have hok : Hid (c.ok = true) := Lib.hid (by simp [Cm.ok, h1, h2, h3])
        go_enter Tryd.func27, Tryd.ntmps27
        go_wp2_with fail
        go_ret
        exact ⟨by rw [hok.out]; rfl, (Below.refl _ _).alloc (Nat.le_refl _) _⟩
      · have hok : Hid (c.ok = false) := Lib.hid (by simp [Cm.ok, h1, h2, h3])
        go_enter Tryd.func27, Tryd.ntmps27
        go_wp2_with fail
        go_ret
        exact ⟨by rw [hok.out]; rfl, (Below.refl _ _).alloc (Nat.le_refl _) _⟩
    · have hok : Hid (c.ok = false) := Lib.hid (by simp [Cm.ok, h1, h2])
      go_enter Tryd.func27, Tryd.ntmps27
      go_wp2_with fail
      go_ret
      exact ⟨by rw [hok.out]; rfl, (Below.refl _ _).alloc (Nat.le_refl _) _⟩
  · have hok : Hid (c.ok = false) := Lib.hid (by simp [Cm.ok, h1])
    go_enter Tryd.func27, Tryd.ntmps27
    go_wp2_with fail
    go_ret
    exact ⟨by rw [hok.out]; rfl, (Below.refl _ _).alloc (Nat.le_refl _) _⟩

theorem words_cell {w : World} (h : w.var? Tryd.prog "scupper/script.words" = some wordsV) (n : Nat) (hn : n < 19) : w.cell? ⟨0, n, none⟩ = some (.string ⟨(kindWord n).toArray⟩) := by
  unfold World.var? at h
  rw [show Tryd.prog.globalNamed "scupper/script.words" = some 0 by kernel_rfl] at h
  simp only [Option.bind_some] at h
  unfold World.cell?
  split at h
  · rename_i cs t fr hb
    simp only [Option.some.injEq] at h
    subst h
    rw [hb]
    simp [wordsV, hn]
  · cases h
  all_goals simp_all

/-- What Act answers. -/
def ActE (a : Ap) (w : World) (e : Ending) (w' : World) : Prop :=
  e = .returned (.tuple #[.string ⟨(if a.ok = true then a.line else []).toArray⟩, .int .i64 (if a.ok = true then 0 else 2)]) ∧ Below w.heap.size w w'
theorem actE_no {a : Ap} {w w' : World} (h : a.ok = false) (hb : Below w.heap.size w w') : ActE a w (.returned (.tuple #[.string ⟨#[]⟩, .int .i64 2])) w' := by
  unfold ActE; rw [h]; exact ⟨rfl, hb⟩
theorem actE_yes {a : Ap} {w w' : World} {l : List UInt8} (h : a.ok = true) (hl : l = a.line) (hb : Below w.heap.size w w') : ActE a w (.returned (.tuple #[.string ⟨l.toArray⟩, .int .i64 0])) w' := by
  subst hl; unfold ActE; rw [h]; exact ⟨rfl, hb⟩

set_option maxRecDepth 20000 in
set_option maxHeartbeats 8000000 in
theorem scrActNo (a : Ap) (ha : a.wf) (hno : a.ok = false) (w : World) : Calls Tryd.prog 12 #[.agg a.cells.toArray] w (ActE a w) := by
  have hk0 := ha.kind0
  have hk1 := ha.kind1
  have HN := Lib.hid hno
  by_cases h1 : a.kind < 1
  · clear hno
    unfold Ap.cells Cm.cells
    simp only [List.cons_append, List.nil_append]
    go_enter Tryd.func12, Tryd.ntmps12
    go_wp2_with fail
    go_ret2
    exact actE_no HN.out ((Below.refl _ _).alloc (Nat.le_refl _) _)
  · by_cases h2 : a.kind ≥ 19
    · clear hno
      unfold Ap.cells Cm.cells
      simp only [List.cons_append, List.nil_append]
      go_enter Tryd.func12, Tryd.ntmps12
      go_wp2_with fail
      go_ret2
      exact actE_no HN.out ((Below.refl _ _).alloc (Nat.le_refl _) _)
    · have hc : a.cmd.ok = false := by
        simp only [Ap.ok, Bool.and_eq_false_iff, decide_eq_false_iff_not] at hno
        rcases hno with (h | h) | h
        · omega
        · omega
        · exact h
      have C := Lib.hid (scrCommanded a.cmd ha.cmd)
      rw [hc] at C
      clear hno hc
      unfold Cm.cells at C
      unfold Ap.cells Cm.cells
      simp only [List.cons_append, List.nil_append]
      go_enter Tryd.func12, Tryd.ntmps12
      go_wp2_with (go_at_call 27; refine (C.out _).mono ?_; rintro e w1 ⟨rfl, hb1⟩; have HB1 := Lib.hid (hb1.mono (B' := w.heap.size) (by simp)); clear hb1)
      go_ret2
      exact actE_no HN.out (((Below.refl _ _).alloc (Nat.le_refl _) _).trans HB1.out)

theorem actLine {a : Ap} (h : a.ok = true) : Hid (addws (addws (addws (kindWord a.kind.toNat) ([a.a, a.b, a.n].map Lib.itoa)) ([a.draw, a.mask].map udec)) a.cmd.words = a.line) := by
  simp only [Ap.ok, Bool.and_eq_true, decide_eq_true_eq] at h
  refine Lib.hid ?_
  rw [← addws_append, ← addws_append, addws_tail (kindWord_ne _ (by omega) (by omega))]
  simp [Ap.line]

set_option maxRecDepth 20000 in
set_option maxHeartbeats 8000000 in
theorem scrActYes (a : Ap) (ha : a.wf) (hok : a.ok = true) (w : World) (hE : Env w.heap.size w) : Calls Tryd.prog 12 #[.agg a.cells.toArray] w (ActE a w) := by
  have HOK := Lib.hid hok
  have HL := actLine hok
  have h' := hok
  simp only [Ap.ok, Cm.ok, Bool.and_eq_true, decide_eq_true_eq] at h'
  obtain ⟨⟨hk1, hk2⟩, ⟨hkl, _⟩, _⟩ := h'
  obtain ⟨kind, ka, kb, kn, kdraw, kmask, cmd⟩ := a
  obtain ⟨g1, g2, g3, g4, g5, g6, g7, g8, g9, g10, g11, g12, g13⟩ := ha
  simp only at *
  obtain ⟨k, rfl⟩ := Int.eq_ofNat_of_zero_le (show 0 ≤ kind by omega)
  rw [Int.toNat_natCast] at HL
  have hkw := kindWord_len k (by omega)
  have hwne := kindWord_ne k (by omega) (by omega)
  have hx1 : (addws (kindWord k) ([ka, kb, kn].map Lib.itoa)).length ≤ 200 := by
    have := addws_len (k := 21) ([ka, kb, kn].map Lib.itoa) (kindWord k) (by intro s hs; simp at hs; rcases hs with rfl | rfl | rfl <;> (have := itoa_len g3 g4; have := itoa_len g5 g6; have := itoa_len g7 g8; omega))
    simp only [List.map_cons, List.map_nil, List.length_cons, List.length_nil] at this ⊢; omega
  have hx2 : (addws (addws (kindWord k) ([ka, kb, kn].map Lib.itoa)) ([kdraw, kmask].map udec)).length ≤ 300 := by
    have := addws_len (k := 21) ([kdraw, kmask].map udec) (addws (kindWord k) ([ka, kb, kn].map Lib.itoa)) (by intro s hs; simp at hs; rcases hs with rfl | rfl <;> (have := udec_len g10; have := udec_len g12; omega))
    simp only [List.map_cons, List.map_nil, List.length_cons, List.length_nil] at this hx1 ⊢; omega
  generalize e1 : addws (kindWord k) ([ka, kb, kn].map Lib.itoa) = l1 at *
  generalize e2 : addws l1 ([kdraw, kmask].map udec) = l2 at *
  have E1 := Lib.hid e1
  have E2 := Lib.hid e2
  have C := Lib.hid (scrCommanded cmd g13)
  rw [show cmd.ok = true by simp only [Ap.ok, Bool.and_eq_true] at hok; exact hok.2] at C
  have CW := Lib.hid fun B b l w h => commandW B b l cmd w h g13 hkl
  have hbk := Blk.of_alloc w (Ap.cells ⟨k, ka, kb, kn, kdraw, kmask, cmd⟩) 35
  have hE0 := hE.alloc (Nat.le_refl _) (.cells (Ap.cells ⟨k, ka, kb, kn, kdraw, kmask, cmd⟩).toArray 35)
  have hB0 : Below w.heap.size w (w.alloc (.cells (Ap.cells ⟨k, ka, kb, kn, kdraw, kmask, cmd⟩).toArray 35)) := (Below.refl _ _).alloc (Nat.le_refl _) _
  clear e1 e2 hok hE
  unfold Ap.cells Cm.cells at *
  simp only [List.cons_append, List.nil_append] at *
  have c0 := hbk.cell 0 rfl
  go_enter Tryd.func12, Tryd.ntmps12
  go_wp2_with (go_at_call 27; refine (C.out _).mono ?_)
  rintro e w1 ⟨rfl, hb1⟩
  have hbk1 := hbk.kept hb1
  have hs1 : w.heap.size + 1 ≤ w1.heap.size := by have := hb1.size; simpa using this
  have hE1 := hE0.below (hb1.mono (by simp))
  have hB1 := hB0.trans (hb1.mono (by simp))
  have hWB := WB.new w1 Tw (B := w1.heap.size) (Nat.le_refl _)
  have hbA : Below w1.heap.size w1 (w1.alloc (.cells #[.pointer none, .slice none 0 0] Tw)) := (Below.refl _ _).alloc (Nat.le_refl _) _
  have hbk2 := hbk1.kept hbA
  have hE2 := (hE1.up (show w.heap.size ≤ w1.heap.size by omega)).below hbA
  have hB2 := hB1.trans (hbA.mono (show w.heap.size ≤ w1.heap.size by omega))
  have hwc := words_cell (hE2.words _ (Below.refl _ _)) k (by omega)
  clear hbk hE0 hB0 hb1 c0 hbk1 hE1 hB1 hbA
  have c0 := hbk2.cell 0 rfl
  have hgb : w.heap.size ≠ w1.heap.size := by omega
  go_wp2_with (go_at_call 28; refine (wordW w1.heap.size w1.heap.size [] (kindWord k) _ hWB (by simp; omega) (by simp)).mono ?_)
  rintro e w2 ⟨rfl, q2, k2⟩
  rw [addw_nil] at q2
  have hb3 := hbk2.kp k2 (by decide) hgb
  have hE3 := hE2.kp k2
  have hB3 := hB2.trans (k2.below.mono (show w.heap.size ≤ w1.heap.size by omega))
  have z3 := k2.size
  clear hbk2 hE2 hB2 k2 hwc c0 hWB
  have z3 : w1.heap.size + 1 ≤ w2.heap.size := by simpa using z3
  have c1 := hb3.cell 1 rfl
  have c2 := hb3.cell 2 rfl
  have c3 := hb3.cell 3 rfl
  go_wp2_with (go_at_call 29; refine (intsW w1.heap.size w1.heap.size (kindWord k) w2.heap.size 3 [ka, kb, kn] _ (q2.alloc _) ?a3 ?a4 (by simp) (by omega) (hE3.alloc (by omega) _) (by simp; omega)).mono ?_)
  case a3 => exact Blk.of_alloc w2 [Value.int .i64 ka, Value.int .i64 kb, Value.int .i64 kn] 2
  case a4 => intro z hz; simp at hz; rcases hz with rfl | rfl | rfl <;> omega
  rintro e w3 ⟨rfl, q3, k3⟩
  rw [E1.out] at q3
  have hb4 := (hb3.kept ((Below.refl _ _).alloc (Nat.le_refl _) _)).kp k3 (by decide) hgb
  have hE4 := (hE3.alloc (by omega) _).kp k3
  have hB4 := (hB3.alloc (by omega) _).trans (k3.below.mono (show w.heap.size ≤ w1.heap.size by omega))
  have z4 : w2.heap.size + 1 ≤ w3.heap.size := by have := k3.size; simpa using this
  clear hb3 q2 hE3 hB3 k3 c1 c2 c3
  have c4 := hb4.cell 4 rfl
  have c5 := hb4.cell 5 rfl
  go_wp2_with (go_at_call 30; refine (numsW w1.heap.size w1.heap.size l1 w3.heap.size 2 [kdraw, kmask] _ (q3.alloc _) ?a5 ?a6 (by simp) (by omega) (hE4.alloc (by omega) _) (by simp; omega)).mono ?_)
  case a5 => exact Blk.of_alloc w3 [Value.int .u64 kdraw, Value.int .u64 kmask] 31
  case a6 => intro z hz; simp at hz; rcases hz with rfl | rfl <;> omega
  rintro e w4 ⟨rfl, q4, k4⟩
  rw [E2.out] at q4
  have hb5 := (hb4.kept ((Below.refl _ _).alloc (Nat.le_refl _) _)).kp k4 (by decide) hgb
  have hE5 := (hE4.alloc (by omega) _).kp k4
  have hB5 := (hB4.alloc (by omega) _).trans (k4.below.mono (show w.heap.size ≤ w1.heap.size by omega))
  have z5 : w3.heap.size + 1 ≤ w4.heap.size := by have := k4.size; simpa using this
  clear hb4 q3 hE4 hB4 k4 c4 c5
  have c6 := hb5.cell 6 rfl
  have c7 := hb5.cell 7 rfl
  have c8 := hb5.cell 8 rfl
  have c9 := hb5.cell 9 rfl
  have c10 := hb5.cell 10 rfl
  have c11 := hb5.cell 11 rfl
  have c12 := hb5.cell 12 rfl
  go_wp2_with (go_at_call 31; refine (CW.out w1.heap.size w1.heap.size l2 _ q4 (by omega) hE5 (by omega)).mono ?_)
  rintro e w5 ⟨rfl, q5, k5⟩
  rw [HL.out] at q5
  have hB6 := hB5.trans (k5.below.mono (show w.heap.size ≤ w1.heap.size by omega))
  clear hb5 q4 hE5 hB5 k5 c6 c7 c8 c9 c10 c11 c12
  have hne := Ap.line_ne HOK.out
  go_wp2_with (go_at_call 25; refine (stringW Tw w1.heap.size w1.heap.size _ _ q5 hne).mono ?_)
  rintro e w6 ⟨rfl, hb6⟩
  go_wp2_with fail
  go_ret2
  exact actE_yes HOK.out rfl (hB6.trans (hb6.mono (by omega)))

theorem scrAct (a : Ap) (ha : a.wf) (w : World) (hE : Env w.heap.size w) : Calls Tryd.prog 12 #[.agg a.cells.toArray] w (ActE a w) := by
  by_cases h : a.ok = true
  · exact scrActYes a ha h w hE
  · exact scrActNo a ha (by simpa using h) w

set_option maxRecDepth 20000 in
set_option maxHeartbeats 8000000 in
theorem scrSetting (zs : List Int) (h10 : zs.length = 10) (hz : ∀ z ∈ zs, -9223372036854775808 ≤ z ∧ z ≤ 9223372036854775807) (w : World) (hE : Env w.heap.size w) :
    Calls Tryd.prog 23 #[.agg (zs.map (Value.int .i64)).toArray] w fun e w' => e = .returned (.string ⟨(setLine zs).toArray⟩) ∧ Below w.heap.size w w' := by
  have HL : Hid (addws setWord (zs.map Lib.itoa) = setLine zs) := Lib.hid (by rw [addws_tail (by decide)]; rfl)
  have HNE : Hid (setLine zs ≠ []) := Lib.hid (by unfold setLine setWord; simp)
  obtain ⟨z0, z1, z2, z3, z4, z5, z6, z7, z8, z9, rfl⟩ : ∃ z0 z1 z2 z3 z4 z5 z6 z7 z8 z9, zs = [z0, z1, z2, z3, z4, z5, z6, z7, z8, z9] := by
    match zs, h10 with
    | [z0, z1, z2, z3, z4, z5, z6, z7, z8, z9], _ => exact ⟨_, _, _, _, _, _, _, _, _, _, rfl⟩
  have HZ := Lib.hid hz
  have hbk := Blk.of_alloc w ([z0, z1, z2, z3, z4, z5, z6, z7, z8, z9].map (Value.int .i64)) 23
  have hE0 := hE.alloc (Nat.le_refl _) (.cells ([z0, z1, z2, z3, z4, z5, z6, z7, z8, z9].map (Value.int .i64)).toArray 23)
  have hB0 : Below w.heap.size w (w.alloc (.cells ([z0, z1, z2, z3, z4, z5, z6, z7, z8, z9].map (Value.int .i64)).toArray 23)) := (Below.refl _ _).alloc (Nat.le_refl _) _
  simp only [List.map_cons, List.map_nil] at hbk hE0 hB0 HL HNE ⊢
  have hWB := WB.new (w.alloc (.cells #[Value.int .i64 z0, Value.int .i64 z1, Value.int .i64 z2, Value.int .i64 z3, Value.int .i64 z4, Value.int .i64 z5, Value.int .i64 z6, Value.int .i64 z7, Value.int .i64 z8, Value.int .i64 z9] 23)) Tw (B := w.heap.size + 1) (by simp)
  rw [show (w.alloc (.cells #[Value.int .i64 z0, Value.int .i64 z1, Value.int .i64 z2, Value.int .i64 z3, Value.int .i64 z4, Value.int .i64 z5, Value.int .i64 z6, Value.int .i64 z7, Value.int .i64 z8, Value.int .i64 z9] 23)).heap.size = w.heap.size + 1 from by simp] at hWB
  have hbA : Below (w.heap.size + 1) (w.alloc (.cells #[Value.int .i64 z0, Value.int .i64 z1, Value.int .i64 z2, Value.int .i64 z3, Value.int .i64 z4, Value.int .i64 z5, Value.int .i64 z6, Value.int .i64 z7, Value.int .i64 z8, Value.int .i64 z9] 23)) ((w.alloc (.cells #[Value.int .i64 z0, Value.int .i64 z1, Value.int .i64 z2, Value.int .i64 z3, Value.int .i64 z4, Value.int .i64 z5, Value.int .i64 z6, Value.int .i64 z7, Value.int .i64 z8, Value.int .i64 z9] 23)).alloc (.cells #[.pointer none, .slice none 0 0] Tw)) := (Below.refl _ _).alloc (by simp) _
  have hbk2 := hbk.below hbA (by simp)
  have hE2 := (hE0.up (show w.heap.size ≤ w.heap.size + 1 by omega)).below hbA
  have hB2 := hB0.trans (hbA.mono (show w.heap.size ≤ w.heap.size + 1 by omega))
  have hgb : w.heap.size ≠ w.heap.size + 1 := by omega
  clear hz hE hbk hE0 hB0 hbA
  go_enter Tryd.func23, Tryd.ntmps23
  go_wp2_with (go_at_call 28; refine (wordW (w.heap.size + 1) (w.heap.size + 1) [] setWord _ hWB (by decide) (by simp)).mono ?_)
  rintro e w2 ⟨rfl, q2, k2⟩
  rw [addw_nil] at q2
  have hb3 := hbk2.kp k2 (by decide) hgb
  have hE3 := hE2.kp k2
  have hB3 := hB2.trans (k2.below.mono (show w.heap.size ≤ w.heap.size + 1 by omega))
  have y3 : w.heap.size + 1 + 1 ≤ w2.heap.size := by have := k2.size; simpa using this
  clear hbk2 hE2 hB2 k2 hWB
  have c0 := hb3.cell 0 rfl
  have c1 := hb3.cell 1 rfl
  have c2 := hb3.cell 2 rfl
  have c3 := hb3.cell 3 rfl
  have c4 := hb3.cell 4 rfl
  have c5 := hb3.cell 5 rfl
  have c6 := hb3.cell 6 rfl
  have c7 := hb3.cell 7 rfl
  have c8 := hb3.cell 8 rfl
  have c9 := hb3.cell 9 rfl
  go_wp2_with (go_at_call 29; refine (intsW (w.heap.size + 1) (w.heap.size + 1) setWord w2.heap.size 10 [z0, z1, z2, z3, z4, z5, z6, z7, z8, z9] _ (q2.alloc _) ?a3 HZ.out (by simp) (by decide) (hE3.alloc (by omega) _) (by simp; omega)).mono ?_)
  case a3 => exact Blk.of_alloc w2 ([z0, z1, z2, z3, z4, z5, z6, z7, z8, z9].map (Value.int .i64)) 2
  rintro e w3 ⟨rfl, q3, k3⟩
  simp only [List.map_cons, List.map_nil] at q3
  rw [HL.out] at q3
  have hB4 := (hB3.alloc (by omega) _).trans (k3.below.mono (show w.heap.size ≤ w.heap.size + 1 by omega))
  have y4 : w2.heap.size + 1 ≤ w3.heap.size := by have := k3.size; simpa using this
  clear hb3 q2 hE3 hB3 k3 c0 c1 c2 c3 c4 c5 c6 c7 c8 c9
  go_wp2_with (go_at_call 25; refine (stringW Tw (w.heap.size + 1) (w.heap.size + 1) _ _ q3 HNE.out).mono ?_)
  rintro e w4 ⟨rfl, hb4⟩
  go_wp2_with fail
  go_ret
  exact ⟨rfl, hB4.trans (hb4.mono (by omega))⟩
end Go.Proofs.YtcinohmhhglpjaaDoor
