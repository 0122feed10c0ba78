/- The law's alike (layer 4), where both disks are the same. -/
import Derived.Test.YthdmnajcphaekaaDoorDiskU
import Derived.Test.YthdmnajcphaekaaDoorPlanT
namespace Go.Proofs.YthdmnajcphaekaaDoor
open Go.RowKit

/-- All names are names. -/
def DSt.named (D : DSt) : Prop := (∀ p ∈ D.sure, nameOk p.1 = true) ∧ ∀ u ∈ D.unsure, nameOk u.name = true
theorem named_fset {F : FS} {n : Nm} {b : List UInt8} (h : ∀ p ∈ F, nameOk p.1 = true) (hn : nameOk n = true) : ∀ p ∈ fset F n b, nameOk p.1 = true := fun p hp => by
  rcases fset_mem hp with rfl | hp
  · exact hn
  · exact h p hp
theorem named_do {F : FS} {u : Wr} (h : ∀ p ∈ F, nameOk p.1 = true) (hn : nameOk u.name = true) : ∀ p ∈ doF F u, nameOk p.1 = true := by
  unfold doF
  split
  · exact named_fset h hn
  · split
    · exact named_fset h hn
    · split
      · exact fun p hp => h p (List.mem_filter.1 (show p ∈ F.filter _ from hp)).1
      · exact h
theorem named_foldl : ∀ {us : List Wr} {F : FS}, (∀ p ∈ F, nameOk p.1 = true) → (∀ u ∈ us, nameOk u.name = true) → ∀ p ∈ us.foldl doF F, nameOk p.1 = true
  | [], _, h, _ => h
  | u :: r, F, h, hu => by
    rw [List.foldl_cons]
    exact named_foldl (named_do h (hu u (by simp))) fun v hv => hu v (List.mem_cons_of_mem _ hv)
theorem DSt.named.files {D : DSt} (h : D.named) : ∀ p ∈ D.files, nameOk p.1 = true := named_foldl h.1 h.2
theorem nameOk_len {n : Nm} (h : nameOk n = true) : n.length ≤ 32 := by
  unfold nameOk at h
  rw [Bool.and_eq_true, decide_eq_true_eq] at h
  exact h.1.2
theorem RR.ucells {M S : Nat → Prop} {w : World} {g : Nat} {A B : Option Addr} {c cu : Nat} {L : List FRow} {U : List (Wr × Option Addr × Nat)} {D : DSt} (h : RR M S w g A c L B cu U D) {k : Nat} (hk : k < U.length) : ∃ b, B = some ⟨b, 0, none⟩ ∧ b < w.heap.size ∧ ∀ w' : World, w'.heap[b]? = w.heap[b]? → w'.cell? ⟨b, k * 4, none⟩ = some (.int .i64 U[k].1.kind) ∧ w'.cell? ⟨b, k * 4 + 1, none⟩ = some (.string ⟨U[k].1.name.toArray⟩) ∧ w'.cell? ⟨b, k * 4 + 2, none⟩ = some (.int .i64 (U[k].1.off : Int)) ∧ w'.cell? ⟨b, k * 4 + 3, none⟩ = some (.slice U[k].2.1 U[k].1.data.length U[k].2.2) := h.uns.cells hk
theorem below_set {B : Nat} {w w' : World} {b : Nat} (h : Below B w w') (hb : B ≤ b) (v : Array Value) : Below B w (w'.setRow b v) :=
  ⟨h.os, h.tape, h.output, by have := h.size; simpa using this, fun j hj => (Go.setRow_other _ _ _ _ (by omega)).trans (h.block j hj)⟩
section
variable {T M S : Nat → Prop} {w : World} {d g : Nat} {D : DSt}
set_option maxRecDepth 20000 in
set_option maxHeartbeats 16000000 in
theorem lawAlike (h : Pair T M S w d D g D) (hcnt : D.cnt ≤ 1000000) (hnm : D.named) : Calls Tryd.prog 28 #[.pointer (some ⟨d, 0, none⟩), .pointer (some ⟨g, 0, none⟩)] w fun e w' => e = .returned (.bool true) ∧ Below w.heap.size w w' := by
  obtain ⟨A, c, L, B, cu, U, hr⟩ := h.ri
  have HR := Lib.hid hr
  have HDI := Lib.hid h.di
  have hris : Rising D.files := by obtain ⟨mf, ms, _, _, hd⟩ := h.di; exact hd.ris.1
  have hok : D.ok := hr.ok
  have FL := Lib.hid (refFiles hr hcnt)
  have hul : U.length = D.unsure.length := hr.lens.2
  have HVU := Lib.hid hr.vu
  have HNF := Lib.hid hnm.files
  have HOKF := Lib.hid hok.files
  have hfs := DSt.size_le hok hris hcnt
  have hfl : D.files.length ≤ 1000000 := Nat.le_trans (DSt.files_len D) hcnt
  have HRIS := Lib.hid hris
  have hul2 : U.length ≤ 1000000 := by unfold DSt.cnt at hcnt; omega
  have HUL := Lib.hid hul
  clear h hr hok hul hris hnm
  go_enter Tryd.func28, Tryd.ntmps28
  go_wp2_with fail
  refine FL.out.mono ?_
  rintro e w1 ⟨A5, c5, L5, rfl, hv5, hO5, hb1⟩
  have HO5 := Lib.hid hO5
  have HL5 : Hid (L5.length = D.files.length) := Lib.hid (by rw [← hv5.out, List.length_map])
  have HN1 := Lib.hid (diskNamesC (HDI.out.below hb1) hcnt (fun p hp => by have := nameOk_len (HNF.out p hp); omega))
  have hl5 : L5.length ≤ 1000000 := by rw [HL5.out]; exact hfl
  clear hO5 FL
  go_wp2_with fail
  refine HN1.out.mono ?_
  rintro e w2 ⟨A6, c6, rfl, hv6, hb2⟩
  have hB2 := hb1.trans (hb2.mono hb1.size)
  have HO52 := Lib.hid (HO5.out.below hb2)
  have HV6 := Lib.hid hv6
  have HU2 := Lib.hid (diskUnsureC (HDI.out.below hB2) hcnt)
  clear hb1 HO5 HN1 hv6
  go_wp2_with fail
  refine HU2.out.mono ?_
  rintro e w3 ⟨A7, c7, U7, rfl, hv7, hu7, hb3⟩
  have hB3 := hB2.trans (hb3.mono hB2.size)
  have HO53 := Lib.hid (HO52.out.below hb3)
  have HV63 := Lib.hid (HV6.out.below hb3)
  have HU3 := Lib.hid hu7
  have HL7 : Hid (U7.length = U.length) := Lib.hid (by rw [HUL.out, ← hv7.out, List.length_map])
  have hl7 : U7.length ≤ 1000000 := by rw [HL7.out]; exact hul2
  rw [HL7.out]
  have HDI3 := Lib.hid (HDI.out.below hB3)
  have HR3 := Lib.hid (HR.out.below hB3)
  have hwb : w2.heap.size ≤ w3.heap.size := hb3.size
  clear hb2 hb3 HO52 HV6 HU2 hu7 hB2
  have DN := Lib.hid (fun w' (hb : Below w3.heap.size w3 w') => diskDownC (HDI3.out.below hb))
  have US := Lib.hid (fun w' (hb : Below w3.heap.size w3 w') => diskUsedC (HDI3.out.below hb) hcnt)
  have SZ := Lib.hid (fun w' (hb : Below w3.heap.size w3 w') => refSize A5 c5 L5 w' (HO53.out.below hb).rd (by omega) (by rw [hv5.out]; omega))
  rw [hv5.out] at SZ
  obtain ⟨dn, hdn⟩ : ∃ dn, dn = D.down := ⟨_, rfl⟩
  have HDN := Lib.hid hdn
  rw [← hdn] at DN
  generalize hfsz : fsize D.files = fsz at *
  have g4 := HR3.out.blk.cell 4 rfl
  rw [← hdn] at g4
  clear hdn hfsz
  cases dn
  all_goals
    go_wp2_with fail
    refine wp_region_planE_gen (by kernel_rfl) [(0, none), (2, none), (3, none), (4, none), (5, none), (1, some [0]), (6, none), (7, none), (8, none), (10, none), (9, some [7, 8]), (11, some [7, 10]), (12, none), (13, none), (14, none), (15, none), (16, none), (17, none), (18, none), (19, none), (20, none), (21, none), (22, none), (23, none)] (by kernel_rfl) (by kernel_rfl) (by decide) ?_
    intro wq hwq
    have hbq : Below w3.heap.size w3 wq := by rw [hwq]; exact (Below.refl _ _).drew
    have e4 := (HR3.out.below hbq).blk.cell 4 rfl
    rw [← HDN.out] at e4
    have e1 := (HR3.out.below hbq).blk.cell 1 rfl
    clear hwq g4
    iterate 4 (refine planE_pure (v := ?_) rfl (by rfl) (fun w' => ?_) ?_; rotate_left; (focus (simp only [List.getElem_toArray, List.getElem_cons_succ, List.getElem_cons_zero]; go_simp; first | with_reducible rfl | (simp (disch := omega) only [if_pos, if_neg, dif_pos, Result.andThen_ok]; try with_reducible rfl) | skip)); try simp only [List.getElem_toArray, List.getElem_cons_succ, List.getElem_cons_zero, Act.put, List.setIfInBounds_toArray, List.set_cons_zero, List.set_cons_succ])
    refine planE_cells (v := ?_) [(⟨g, 4, none⟩, _)] (by simp; and_intros <;> assumption) rfl (by rfl) (fun w' hw' => ?_) ?_; rotate_left; (focus (simp only [List.forall_mem_cons, List.not_mem_nil, false_imp_iff, implies_true, and_true] at hw'; simp only [List.getElem_toArray, List.getElem_cons_succ, List.getElem_cons_zero]; go_simp; first | with_reducible rfl | (simp (disch := omega) only [if_pos, if_neg, dif_pos, Result.andThen_ok]; try with_reducible rfl) | skip)); try simp only [List.getElem_toArray, List.getElem_cons_succ, List.getElem_cons_zero, Act.put, List.setIfInBounds_toArray, List.set_cons_zero, List.set_cons_succ]
    refine planE_eff rfl (by rfl) (fun K hK => ?_)
    go_simp
    refine (DN.out _ hbq).mono ?_
    rintro e w4 ⟨rfl, rfl⟩
    refine hK _ _ (by simp [owed, left] <;> (and_intros <;> first | trivial | assumption)) ?_
    clear hK K
    try simp only [List.getElem_toArray, List.getElem_cons_succ, List.getElem_cons_zero, Act.put, List.setIfInBounds_toArray, List.set_cons_zero, List.set_cons_succ]
    iterate 4 (refine planE_pure (v := ?_) rfl (by rfl) (fun w' => ?_) ?_; rotate_left; (focus (simp only [List.getElem_toArray, List.getElem_cons_succ, List.getElem_cons_zero]; go_simp; first | with_reducible rfl | (simp (disch := omega) only [if_pos, if_neg, dif_pos, Result.andThen_ok]; try with_reducible rfl) | skip)); try simp only [List.getElem_toArray, List.getElem_cons_succ, List.getElem_cons_zero, Act.put, List.setIfInBounds_toArray, List.set_cons_zero, List.set_cons_succ])
    refine planE_eff rfl (by rfl) (fun K hK => ?_)
    go_simp
    refine (US.out _ hbq).mono ?_
    rintro e w4 ⟨rfl, hb4⟩
    have hbq4 := hbq.trans (hb4.mono hbq.size)
    clear e4 e1 hb4
    have e4 := (HR3.out.below hbq4).blk.cell 4 rfl
    rw [← HDN.out] at e4
    have e1 := (HR3.out.below hbq4).blk.cell 1 rfl
    refine hK _ _ (by simp [owed, left] <;> (and_intros <;> first | trivial | assumption)) ?_
    clear hK K
    try simp only [List.getElem_toArray, List.getElem_cons_succ, List.getElem_cons_zero, Act.put, List.setIfInBounds_toArray, List.set_cons_zero, List.set_cons_succ]
    refine planE_eff rfl (by rfl) (fun K hK => ?_)
    go_simp
    refine (SZ.out _ hbq4).mono ?_
    rintro e w5 ⟨rfl, hb5⟩
    have hbq5 := hbq4.trans (hb5.mono hbq4.size)
    clear e4 e1 hb5
    have e4 := (HR3.out.below hbq5).blk.cell 4 rfl
    rw [← HDN.out] at e4
    have e1 := (HR3.out.below hbq5).blk.cell 1 rfl
    refine hK _ _ (by simp [owed, left] <;> (and_intros <;> first | trivial | assumption)) ?_
    clear hK K
    try simp only [List.getElem_toArray, List.getElem_cons_succ, List.getElem_cons_zero, Act.put, List.setIfInBounds_toArray, List.set_cons_zero, List.set_cons_succ]
    iterate 8 (refine planE_pure (v := ?_) rfl (by rfl) (fun w' => ?_) ?_; rotate_left; (focus (simp only [List.getElem_toArray, List.getElem_cons_succ, List.getElem_cons_zero]; go_simp; first | with_reducible rfl | (simp (disch := omega) only [if_pos, if_neg, dif_pos, Result.andThen_ok]; try with_reducible rfl) | skip)); try simp only [List.getElem_toArray, List.getElem_cons_succ, List.getElem_cons_zero, Act.put, List.setIfInBounds_toArray, List.set_cons_zero, List.set_cons_succ])
    refine planE_cells (v := ?_) [(⟨g, 1, none⟩, .slice B U.length cu)] (by simp; and_intros <;> assumption) rfl (by rfl) (fun w' hw' => ?_) ?_; rotate_left; (focus (simp only [List.forall_mem_cons, List.not_mem_nil, false_imp_iff, implies_true, and_true] at hw'; simp only [List.getElem_toArray, List.getElem_cons_succ, List.getElem_cons_zero]; go_simp; first | with_reducible rfl | (simp (disch := omega) only [if_pos, if_neg, dif_pos, Result.andThen_ok]; try with_reducible rfl) | skip)); try simp only [List.getElem_toArray, List.getElem_cons_succ, List.getElem_cons_zero, Act.put, List.setIfInBounds_toArray, List.set_cons_zero, List.set_cons_succ]
    iterate 3 (refine planE_pure (v := ?_) rfl (by rfl) (fun w' => ?_) ?_; rotate_left; (focus (simp only [List.getElem_toArray, List.getElem_cons_succ, List.getElem_cons_zero]; go_simp; first | with_reducible rfl | (simp (disch := omega) only [if_pos, if_neg, dif_pos, Result.andThen_ok]; try with_reducible rfl) | skip)); try simp only [List.getElem_toArray, List.getElem_cons_succ, List.getElem_cons_zero, Act.put, List.setIfInBounds_toArray, List.set_cons_zero, List.set_cons_succ])
    refine planE_end ?_
    obtain ⟨w5b, hw5b⟩ : ∃ w5b, w5b = w5 := ⟨_, rfl⟩
    rw [← hw5b] at hbq5 ⊢
    clear hw5b e4 e1 hbq4 DN US SZ
    go_wp2_with fail
    go_loopw [8] (fun s8 wr => ∃ k : Nat, k ≤ U.length ∧ s8 = .int .i64 (k : Int) ∧ Below w3.heap.size w3 wr) (fun s8 _ => U.length - (intOf s8).toNat)
    case atStart => exact ⟨0, Nat.zero_le _, rfl, hbq5⟩
    case round =>
      obtain ⟨k, hk, rfl, hB⟩ := hrel
      clear hbq5
      have HRr := Lib.hid (HR3.out.below hB)
      have HUr := Lib.hid (HU3.out.below hB)
      by_cases hlt : k < U.length
      · obtain ⟨bu, hBe, hbl, hcs⟩ := HRr.out.ucells hlt
        have hlt7 : k < U7.length := by rw [HL7.out]; exact hlt
        obtain ⟨b7, hB7, hbl7, hcs7⟩ := HUr.out.row.wcells hlt7
        have hkk : U7[k].1 = U[k].1 := by
          have e1 : (U7.map Prod.fst)[k]'(by rw [List.length_map]; exact hlt7) = U7[k].1 := by simp
          have e2 : (U.map Prod.fst)[k]'(by rw [List.length_map]; exact hlt) = U[k].1 := by simp
          rw [← e1, ← e2]
          congr 1
          rw [hv7.out, HVU.out]
        have HD7 := Lib.hid ((HUr.out.dat _ (List.getElem_mem hlt7)).rb)
        have HDu := Lib.hid (HRr.out.uns.rb _ (List.getElem_mem hlt))
        rw [hkk] at hcs7 HD7
        have HCS := Lib.hid hcs
        have HCS7 := Lib.hid hcs7
        generalize U[k].1.kind = kk at *
        generalize U[k].1.name = kn at *
        generalize U[k].1.off = ko at *
        generalize U[k].1.data = kd at *
        generalize U[k].2.1 = kA at *
        generalize U[k].2.2 = kc at *
        generalize U7[k].2.1 = kA7 at *
        generalize U7[k].2.2 = kc7 at *
        have hlt1 : k + 1 ≤ U.length := hlt
        subst hBe hB7
        clear hkk hcs hcs7
        have g1 := HRr.out.blk.cell 1 rfl
        go_wp2_with fail
        refine wp_region_planT_gen (by kernel_rfl) [0, 1, 2, 3, 4, 5, 6, 7, 8, 9, 10] (11, [], [(12, some []), (13, some [0, 1, 2, 3]), (14, some [0, 1, 2, 3, 4, 5, 6, 7, 8, 9, 10])]) (12, [], [(11, some []), (13, some [0, 1, 2, 3]), (14, some [0, 1, 2, 3, 4, 5, 6, 7, 8, 9, 10])]) (by kernel_rfl) (by kernel_rfl) (by decide) (by decide) ?_
        intro wq hwq
        have hbq : Below wr.heap.size wr wq := by rw [hwq]; exact (Below.refl _ _).drew
        obtain ⟨p0, p1, p2, p3⟩ := HCS7.out wq (hbq.block b7 hbl7)
        obtain ⟨q0, q1, q2, q3⟩ := HCS.out wq (hbq.block bu hbl)
        have r1 := (HRr.out.below hbq).blk.cell 1 rfl
        have HBQ := Lib.hid hbq
        clear hwq hbq g1
        iterate 3 (refine planF_pure (v := ?_) rfl (by rfl) (fun w' => ?_) ?_; rotate_left; (focus (simp only [List.getElem_toArray, List.getElem_cons_succ, List.getElem_cons_zero]; go_simp; first | with_reducible rfl | (simp (disch := omega) only [if_pos, if_neg, dif_pos, Result.andThen_ok]; try with_reducible rfl) | skip)); try simp only [List.getElem_toArray, List.getElem_cons_succ, List.getElem_cons_zero, Act.put, List.setIfInBounds_toArray, List.set_cons_zero, List.set_cons_succ])
        refine planF_cells (v := ?_) [(⟨b7, k * 4, none⟩, .int .i64 kk), (⟨b7, k * 4 + 1, none⟩, .string ⟨kn.toArray⟩), (⟨b7, k * 4 + 2, none⟩, .int .i64 (ko : Int)), (⟨b7, k * 4 + 3, none⟩, .slice kA7 kd.length kc7)] (by simp; and_intros <;> assumption) rfl (by rfl) (fun w' hw' => ?_) ?_; rotate_left; (focus (simp only [List.forall_mem_cons, List.not_mem_nil, false_imp_iff, implies_true, and_true] at hw'; simp only [List.getElem_toArray, List.getElem_cons_succ, List.getElem_cons_zero]; go_simp; first | with_reducible rfl | (simp (disch := omega) only [if_pos, if_neg, dif_pos, Result.andThen_ok]; try with_reducible rfl) | skip)); try simp only [List.getElem_toArray, List.getElem_cons_succ, List.getElem_cons_zero, Act.put, List.setIfInBounds_toArray, List.set_cons_zero, List.set_cons_succ]
        iterate 3 (refine planF_pure (v := ?_) rfl (by rfl) (fun w' => ?_) ?_; rotate_left; (focus (simp only [List.getElem_toArray, List.getElem_cons_succ, List.getElem_cons_zero]; go_simp; first | with_reducible rfl | (simp (disch := omega) only [if_pos, if_neg, dif_pos, Result.andThen_ok]; try with_reducible rfl) | skip)); try simp only [List.getElem_toArray, List.getElem_cons_succ, List.getElem_cons_zero, Act.put, List.setIfInBounds_toArray, List.set_cons_zero, List.set_cons_succ])
        refine planF_cells (v := ?_) [(⟨g, 1, none⟩, .slice (some ⟨bu, 0, none⟩) U.length cu)] (by simp; and_intros <;> assumption) rfl (by rfl) (fun w' hw' => ?_) ?_; rotate_left; (focus (simp only [List.forall_mem_cons, List.not_mem_nil, false_imp_iff, implies_true, and_true] at hw'; simp only [List.getElem_toArray, List.getElem_cons_succ, List.getElem_cons_zero]; go_simp; first | with_reducible rfl | (simp (disch := omega) only [if_pos, if_neg, dif_pos, Result.andThen_ok]; try with_reducible rfl) | skip)); try simp only [List.getElem_toArray, List.getElem_cons_succ, List.getElem_cons_zero, Act.put, List.setIfInBounds_toArray, List.set_cons_zero, List.set_cons_succ]
        iterate 2 (refine planF_pure (v := ?_) rfl (by rfl) (fun w' => ?_) ?_; rotate_left; (focus (simp only [List.getElem_toArray, List.getElem_cons_succ, List.getElem_cons_zero]; go_simp; first | with_reducible rfl | (simp (disch := omega) only [if_pos, if_neg, dif_pos, Result.andThen_ok]; try with_reducible rfl) | skip)); try simp only [List.getElem_toArray, List.getElem_cons_succ, List.getElem_cons_zero, Act.put, List.setIfInBounds_toArray, List.set_cons_zero, List.set_cons_succ])
        refine planF_cells (v := ?_) [(⟨bu, k * 4, none⟩, .int .i64 kk), (⟨bu, k * 4 + 1, none⟩, .string ⟨kn.toArray⟩), (⟨bu, k * 4 + 2, none⟩, .int .i64 (ko : Int)), (⟨bu, k * 4 + 3, none⟩, .slice kA kd.length kc)] (by simp; and_intros <;> assumption) rfl (by rfl) (fun w' hw' => ?_) ?_; rotate_left; (focus (simp only [List.forall_mem_cons, List.not_mem_nil, false_imp_iff, implies_true, and_true] at hw'; simp only [List.getElem_toArray, List.getElem_cons_succ, List.getElem_cons_zero]; go_simp; first | with_reducible rfl | (simp (disch := omega) only [if_pos, if_neg, dif_pos, Result.andThen_ok]; try with_reducible rfl) | skip)); try simp only [List.getElem_toArray, List.getElem_cons_succ, List.getElem_cons_zero, Act.put, List.setIfInBounds_toArray, List.set_cons_zero, List.set_cons_succ]
        refine planF_end ⟨?_, ?_⟩
        focus
          refine planE_eff rfl (by rfl) (fun K hK => ?_)
          go_simp
          first
          | (guard_hyp HBQ : Hid (Below wr.heap.size wr wq)
             have hcz : Below wr.heap.size wr (wq.alloc (.cells #[.int .i64 0, .string ⟨#[]⟩, .int .i64 0, .slice none 0 0] 73)) := HBQ.out.alloc HBQ.out.size _
             have hbk := Blk.new wq #[.int .i64 0, .string ⟨#[]⟩, .int .i64 0, .slice none 0 0] 73
             have hge : wr.heap.size ≤ wq.heap.size := HBQ.out.size
             obtain ⟨ab, hab⟩ : ∃ ab, ab = wq.heap.size := ⟨_, rfl⟩
             rw [← hab] at hbk hge ⊢
             clear HBQ hab
             generalize wq.alloc (.cells #[.int .i64 0, .string ⟨#[]⟩, .int .i64 0, .slice none 0 0] 73) = wa at *
             have Hab := Lib.hid hbk
             have HBQ := Lib.hid hcz
             have hgab := hge
             clear p0 p1 p2 p3 q0 q1 q2 q3 r1 hcz hbk hge
             obtain ⟨p0, p1, p2, p3⟩ := HCS7.out wa (HBQ.out.block b7 hbl7)
             obtain ⟨q0, q1, q2, q3⟩ := HCS.out wa (HBQ.out.block bu hbl)
             have r1 := (HRr.out.below HBQ.out).blk.cell 1 rfl)
          | (guard_hyp HBQ : Hid (Below wr.heap.size wr wa)
             have hcz : Below wr.heap.size wr (wa.alloc (.cells #[.int .i64 0, .string ⟨#[]⟩, .int .i64 0, .slice none 0 0] 73)) := HBQ.out.alloc HBQ.out.size _
             have hbk := Blk.new wa #[.int .i64 0, .string ⟨#[]⟩, .int .i64 0, .slice none 0 0] 73
             have hge : wr.heap.size ≤ wa.heap.size := HBQ.out.size
             have hpv := Lib.hid (Hbb.out.below ((Below.refl _ _).alloc (Nat.le_refl _) _ : Below wa.heap.size wa (wa.alloc (.cells #[.int .i64 0, .string ⟨#[]⟩, .int .i64 0, .slice none 0 0] 73))) Hbb.out.lt)
             have hltab : bb < wa.heap.size := Hbb.out.lt
             obtain ⟨ab, hab⟩ : ∃ ab, ab = wa.heap.size := ⟨_, rfl⟩
             rw [← hab] at hbk hge hltab ⊢
             have hneab : ab ≠ bb := by omega
             clear HBQ hab Hbb hltab
             generalize wa.alloc (.cells #[.int .i64 0, .string ⟨#[]⟩, .int .i64 0, .slice none 0 0] 73) = wb at *
             have Hab := Lib.hid hbk
             have HBQ := Lib.hid hcz
             have hgab := hge
             have Hbb := hpv
             clear hpv
             clear p0 p1 p2 p3 q0 q1 q2 q3 r1 hcz hbk hge
             obtain ⟨p0, p1, p2, p3⟩ := HCS7.out wb (HBQ.out.block b7 hbl7)
             obtain ⟨q0, q1, q2, q3⟩ := HCS.out wb (HBQ.out.block bu hbl)
             have r1 := (HRr.out.below HBQ.out).blk.cell 1 rfl)
          refine hK _ _ (by simp [owed, left] <;> (and_intros <;> first | trivial | assumption)) ?_
          clear hK K
          try simp only [List.getElem_toArray, List.getElem_cons_succ, List.getElem_cons_zero, Act.put, List.setIfInBounds_toArray, List.set_cons_zero, List.set_cons_succ]
          refine planE_eff rfl (by rfl) (fun K hK => ?_)
          go_simp
          first
          | (guard_hyp HBQ : Hid (Below wr.heap.size wr wq)
             have hcz : Below wr.heap.size wr (wq.alloc (.cells #[.int .i64 0, .string ⟨#[]⟩, .int .i64 0, .slice none 0 0] 73)) := HBQ.out.alloc HBQ.out.size _
             have hbk := Blk.new wq #[.int .i64 0, .string ⟨#[]⟩, .int .i64 0, .slice none 0 0] 73
             have hge : wr.heap.size ≤ wq.heap.size := HBQ.out.size
             obtain ⟨bb, hbb⟩ : ∃ bb, bb = wq.heap.size := ⟨_, rfl⟩
             rw [← hbb] at hbk hge ⊢
             clear HBQ hbb
             generalize wq.alloc (.cells #[.int .i64 0, .string ⟨#[]⟩, .int .i64 0, .slice none 0 0] 73) = wa at *
             have Hbb := Lib.hid hbk
             have HBQ := Lib.hid hcz
             have hgbb := hge
             clear p0 p1 p2 p3 q0 q1 q2 q3 r1 hcz hbk hge
             obtain ⟨p0, p1, p2, p3⟩ := HCS7.out wa (HBQ.out.block b7 hbl7)
             obtain ⟨q0, q1, q2, q3⟩ := HCS.out wa (HBQ.out.block bu hbl)
             have r1 := (HRr.out.below HBQ.out).blk.cell 1 rfl)
          | (guard_hyp HBQ : Hid (Below wr.heap.size wr wa)
             have hcz : Below wr.heap.size wr (wa.alloc (.cells #[.int .i64 0, .string ⟨#[]⟩, .int .i64 0, .slice none 0 0] 73)) := HBQ.out.alloc HBQ.out.size _
             have hbk := Blk.new wa #[.int .i64 0, .string ⟨#[]⟩, .int .i64 0, .slice none 0 0] 73
             have hge : wr.heap.size ≤ wa.heap.size := HBQ.out.size
             have hpv := Lib.hid (Hab.out.below ((Below.refl _ _).alloc (Nat.le_refl _) _ : Below wa.heap.size wa (wa.alloc (.cells #[.int .i64 0, .string ⟨#[]⟩, .int .i64 0, .slice none 0 0] 73))) Hab.out.lt)
             have hltbb : ab < wa.heap.size := Hab.out.lt
             obtain ⟨bb, hbb⟩ : ∃ bb, bb = wa.heap.size := ⟨_, rfl⟩
             rw [← hbb] at hbk hge hltbb ⊢
             have hnebb : bb ≠ ab := by omega
             clear HBQ hbb Hab hltbb
             generalize wa.alloc (.cells #[.int .i64 0, .string ⟨#[]⟩, .int .i64 0, .slice none 0 0] 73) = wb at *
             have Hbb := Lib.hid hbk
             have HBQ := Lib.hid hcz
             have hgbb := hge
             have Hab := hpv
             clear hpv
             clear p0 p1 p2 p3 q0 q1 q2 q3 r1 hcz hbk hge
             obtain ⟨p0, p1, p2, p3⟩ := HCS7.out wb (HBQ.out.block b7 hbl7)
             obtain ⟨q0, q1, q2, q3⟩ := HCS.out wb (HBQ.out.block bu hbl)
             have r1 := (HRr.out.below HBQ.out).blk.cell 1 rfl)
          refine hK _ _ (by simp [owed, left] <;> (and_intros <;> first | trivial | assumption)) ?_
          clear hK K
          try simp only [List.getElem_toArray, List.getElem_cons_succ, List.getElem_cons_zero, Act.put, List.setIfInBounds_toArray, List.set_cons_zero, List.set_cons_succ]
          refine planE_eff rfl (by rfl) (fun K hK => ?_)
          refine wp_store_row 73 (.tmp 9) (.tmp 53) (by rfl) ab #[.int .i64 kk, .string ⟨kn.toArray⟩, .int .i64 (ko : Int), .slice kA7 kd.length kc7] (by rfl) (by rfl) 73 _ Hab.out write_size rfl (by simp [Value.oneCell']) ?_
          have hbx := Lib.hid (Hab.out.setRow #[.int .i64 kk, .string ⟨kn.toArray⟩, .int .i64 (ko : Int), .slice kA7 kd.length kc7])
          have hox := Lib.hid (Hbb.out.setRow_other #[.int .i64 kk, .string ⟨kn.toArray⟩, .int .i64 (ko : Int), .slice kA7 kd.length kc7] (k := ab) (by first | assumption | (apply Ne.symm; assumption)))
          have hcz : Below wr.heap.size wr (wb.setRow ab #[.int .i64 kk, .string ⟨kn.toArray⟩, .int .i64 (ko : Int), .slice kA7 kd.length kc7]) := below_set HBQ.out hgab _
          clear HBQ Hab Hbb
          generalize wb.setRow ab #[.int .i64 kk, .string ⟨kn.toArray⟩, .int .i64 (ko : Int), .slice kA7 kd.length kc7] = wc at *
          have Hab := hbx
          have Hbb := hox
          have HBQ := Lib.hid hcz
          clear p0 p1 p2 p3 q0 q1 q2 q3 r1 hcz hbx hox
          obtain ⟨p0, p1, p2, p3⟩ := HCS7.out wc (HBQ.out.block b7 hbl7)
          obtain ⟨q0, q1, q2, q3⟩ := HCS.out wc (HBQ.out.block bu hbl)
          have r1 := (HRr.out.below HBQ.out).blk.cell 1 rfl
          refine hK _ _ (by simp [owed, left] <;> (and_intros <;> first | trivial | assumption)) ?_
          clear hK K
          try simp only [List.getElem_toArray, List.getElem_cons_succ, List.getElem_cons_zero, Act.put, List.setIfInBounds_toArray, List.set_cons_zero, List.set_cons_succ]
          refine planE_eff rfl (by rfl) (fun K hK => ?_)
          refine wp_store_row 73 (.tmp 10) (.tmp 60) (by rfl) bb #[.int .i64 kk, .string ⟨kn.toArray⟩, .int .i64 (ko : Int), .slice kA kd.length kc] (by rfl) (by rfl) 73 _ Hbb.out write_size rfl (by simp [Value.oneCell']) ?_
          have hbx := Lib.hid (Hbb.out.setRow #[.int .i64 kk, .string ⟨kn.toArray⟩, .int .i64 (ko : Int), .slice kA kd.length kc])
          have hox := Lib.hid (Hab.out.setRow_other #[.int .i64 kk, .string ⟨kn.toArray⟩, .int .i64 (ko : Int), .slice kA kd.length kc] (k := bb) (by first | assumption | (apply Ne.symm; assumption)))
          have hcz : Below wr.heap.size wr (wc.setRow bb #[.int .i64 kk, .string ⟨kn.toArray⟩, .int .i64 (ko : Int), .slice kA kd.length kc]) := below_set HBQ.out hgbb _
          clear HBQ Hbb Hab
          generalize wc.setRow bb #[.int .i64 kk, .string ⟨kn.toArray⟩, .int .i64 (ko : Int), .slice kA kd.length kc] = wd at *
          have Hbb := hbx
          have Hab := hox
          have HBQ := Lib.hid hcz
          clear p0 p1 p2 p3 q0 q1 q2 q3 r1 hcz hbx hox
          obtain ⟨p0, p1, p2, p3⟩ := HCS7.out wd (HBQ.out.block b7 hbl7)
          obtain ⟨q0, q1, q2, q3⟩ := HCS.out wd (HBQ.out.block bu hbl)
          have r1 := (HRr.out.below HBQ.out).blk.cell 1 rfl
          refine hK _ _ (by simp [owed, left] <;> (and_intros <;> first | trivial | assumption)) ?_
          clear hK K
          try simp only [List.getElem_toArray, List.getElem_cons_succ, List.getElem_cons_zero, Act.put, List.setIfInBounds_toArray, List.set_cons_zero, List.set_cons_succ]
          refine planE_end ?_
        rotate_left
        focus
          refine planE_eff rfl (by rfl) (fun K hK => ?_)
          go_simp
          first
          | (guard_hyp HBQ : Hid (Below wr.heap.size wr wq)
             have hcz : Below wr.heap.size wr (wq.alloc (.cells #[.int .i64 0, .string ⟨#[]⟩, .int .i64 0, .slice none 0 0] 73)) := HBQ.out.alloc HBQ.out.size _
             have hbk := Blk.new wq #[.int .i64 0, .string ⟨#[]⟩, .int .i64 0, .slice none 0 0] 73
             have hge : wr.heap.size ≤ wq.heap.size := HBQ.out.size
             obtain ⟨bb, hbb⟩ : ∃ bb, bb = wq.heap.size := ⟨_, rfl⟩
             rw [← hbb] at hbk hge ⊢
             clear HBQ hbb
             generalize wq.alloc (.cells #[.int .i64 0, .string ⟨#[]⟩, .int .i64 0, .slice none 0 0] 73) = wa at *
             have Hbb := Lib.hid hbk
             have HBQ := Lib.hid hcz
             have hgbb := hge
             clear p0 p1 p2 p3 q0 q1 q2 q3 r1 hcz hbk hge
             obtain ⟨p0, p1, p2, p3⟩ := HCS7.out wa (HBQ.out.block b7 hbl7)
             obtain ⟨q0, q1, q2, q3⟩ := HCS.out wa (HBQ.out.block bu hbl)
             have r1 := (HRr.out.below HBQ.out).blk.cell 1 rfl)
          | (guard_hyp HBQ : Hid (Below wr.heap.size wr wa)
             have hcz : Below wr.heap.size wr (wa.alloc (.cells #[.int .i64 0, .string ⟨#[]⟩, .int .i64 0, .slice none 0 0] 73)) := HBQ.out.alloc HBQ.out.size _
             have hbk := Blk.new wa #[.int .i64 0, .string ⟨#[]⟩, .int .i64 0, .slice none 0 0] 73
             have hge : wr.heap.size ≤ wa.heap.size := HBQ.out.size
             have hpv := Lib.hid (Hab.out.below ((Below.refl _ _).alloc (Nat.le_refl _) _ : Below wa.heap.size wa (wa.alloc (.cells #[.int .i64 0, .string ⟨#[]⟩, .int .i64 0, .slice none 0 0] 73))) Hab.out.lt)
             have hltbb : ab < wa.heap.size := Hab.out.lt
             obtain ⟨bb, hbb⟩ : ∃ bb, bb = wa.heap.size := ⟨_, rfl⟩
             rw [← hbb] at hbk hge hltbb ⊢
             have hnebb : bb ≠ ab := by omega
             clear HBQ hbb Hab hltbb
             generalize wa.alloc (.cells #[.int .i64 0, .string ⟨#[]⟩, .int .i64 0, .slice none 0 0] 73) = wb at *
             have Hbb := Lib.hid hbk
             have HBQ := Lib.hid hcz
             have hgbb := hge
             have Hab := hpv
             clear hpv
             clear p0 p1 p2 p3 q0 q1 q2 q3 r1 hcz hbk hge
             obtain ⟨p0, p1, p2, p3⟩ := HCS7.out wb (HBQ.out.block b7 hbl7)
             obtain ⟨q0, q1, q2, q3⟩ := HCS.out wb (HBQ.out.block bu hbl)
             have r1 := (HRr.out.below HBQ.out).blk.cell 1 rfl)
          refine hK _ _ (by simp [owed, left] <;> (and_intros <;> first | trivial | assumption)) ?_
          clear hK K
          try simp only [List.getElem_toArray, List.getElem_cons_succ, List.getElem_cons_zero, Act.put, List.setIfInBounds_toArray, List.set_cons_zero, List.set_cons_succ]
          refine planE_eff rfl (by rfl) (fun K hK => ?_)
          go_simp
          first
          | (guard_hyp HBQ : Hid (Below wr.heap.size wr wq)
             have hcz : Below wr.heap.size wr (wq.alloc (.cells #[.int .i64 0, .string ⟨#[]⟩, .int .i64 0, .slice none 0 0] 73)) := HBQ.out.alloc HBQ.out.size _
             have hbk := Blk.new wq #[.int .i64 0, .string ⟨#[]⟩, .int .i64 0, .slice none 0 0] 73
             have hge : wr.heap.size ≤ wq.heap.size := HBQ.out.size
             obtain ⟨ab, hab⟩ : ∃ ab, ab = wq.heap.size := ⟨_, rfl⟩
             rw [← hab] at hbk hge ⊢
             clear HBQ hab
             generalize wq.alloc (.cells #[.int .i64 0, .string ⟨#[]⟩, .int .i64 0, .slice none 0 0] 73) = wa at *
             have Hab := Lib.hid hbk
             have HBQ := Lib.hid hcz
             have hgab := hge
             clear p0 p1 p2 p3 q0 q1 q2 q3 r1 hcz hbk hge
             obtain ⟨p0, p1, p2, p3⟩ := HCS7.out wa (HBQ.out.block b7 hbl7)
             obtain ⟨q0, q1, q2, q3⟩ := HCS.out wa (HBQ.out.block bu hbl)
             have r1 := (HRr.out.below HBQ.out).blk.cell 1 rfl)
          | (guard_hyp HBQ : Hid (Below wr.heap.size wr wa)
             have hcz : Below wr.heap.size wr (wa.alloc (.cells #[.int .i64 0, .string ⟨#[]⟩, .int .i64 0, .slice none 0 0] 73)) := HBQ.out.alloc HBQ.out.size _
             have hbk := Blk.new wa #[.int .i64 0, .string ⟨#[]⟩, .int .i64 0, .slice none 0 0] 73
             have hge : wr.heap.size ≤ wa.heap.size := HBQ.out.size
             have hpv := Lib.hid (Hbb.out.below ((Below.refl _ _).alloc (Nat.le_refl _) _ : Below wa.heap.size wa (wa.alloc (.cells #[.int .i64 0, .string ⟨#[]⟩, .int .i64 0, .slice none 0 0] 73))) Hbb.out.lt)
             have hltab : bb < wa.heap.size := Hbb.out.lt
             obtain ⟨ab, hab⟩ : ∃ ab, ab = wa.heap.size := ⟨_, rfl⟩
             rw [← hab] at hbk hge hltab ⊢
             have hneab : ab ≠ bb := by omega
             clear HBQ hab Hbb hltab
             generalize wa.alloc (.cells #[.int .i64 0, .string ⟨#[]⟩, .int .i64 0, .slice none 0 0] 73) = wb at *
             have Hab := Lib.hid hbk
             have HBQ := Lib.hid hcz
             have hgab := hge
             have Hbb := hpv
             clear hpv
             clear p0 p1 p2 p3 q0 q1 q2 q3 r1 hcz hbk hge
             obtain ⟨p0, p1, p2, p3⟩ := HCS7.out wb (HBQ.out.block b7 hbl7)
             obtain ⟨q0, q1, q2, q3⟩ := HCS.out wb (HBQ.out.block bu hbl)
             have r1 := (HRr.out.below HBQ.out).blk.cell 1 rfl)
          refine hK _ _ (by simp [owed, left] <;> (and_intros <;> first | trivial | assumption)) ?_
          clear hK K
          try simp only [List.getElem_toArray, List.getElem_cons_succ, List.getElem_cons_zero, Act.put, List.setIfInBounds_toArray, List.set_cons_zero, List.set_cons_succ]
          refine planE_eff rfl (by rfl) (fun K hK => ?_)
          refine wp_store_row 73 (.tmp 9) (.tmp 53) (by rfl) ab #[.int .i64 kk, .string ⟨kn.toArray⟩, .int .i64 (ko : Int), .slice kA7 kd.length kc7] (by rfl) (by rfl) 73 _ Hab.out write_size rfl (by simp [Value.oneCell']) ?_
          have hbx := Lib.hid (Hab.out.setRow #[.int .i64 kk, .string ⟨kn.toArray⟩, .int .i64 (ko : Int), .slice kA7 kd.length kc7])
          have hox := Lib.hid (Hbb.out.setRow_other #[.int .i64 kk, .string ⟨kn.toArray⟩, .int .i64 (ko : Int), .slice kA7 kd.length kc7] (k := ab) (by first | assumption | (apply Ne.symm; assumption)))
          have hcz : Below wr.heap.size wr (wb.setRow ab #[.int .i64 kk, .string ⟨kn.toArray⟩, .int .i64 (ko : Int), .slice kA7 kd.length kc7]) := below_set HBQ.out hgab _
          clear HBQ Hab Hbb
          generalize wb.setRow ab #[.int .i64 kk, .string ⟨kn.toArray⟩, .int .i64 (ko : Int), .slice kA7 kd.length kc7] = wc at *
          have Hab := hbx
          have Hbb := hox
          have HBQ := Lib.hid hcz
          clear p0 p1 p2 p3 q0 q1 q2 q3 r1 hcz hbx hox
          obtain ⟨p0, p1, p2, p3⟩ := HCS7.out wc (HBQ.out.block b7 hbl7)
          obtain ⟨q0, q1, q2, q3⟩ := HCS.out wc (HBQ.out.block bu hbl)
          have r1 := (HRr.out.below HBQ.out).blk.cell 1 rfl
          refine hK _ _ (by simp [owed, left] <;> (and_intros <;> first | trivial | assumption)) ?_
          clear hK K
          try simp only [List.getElem_toArray, List.getElem_cons_succ, List.getElem_cons_zero, Act.put, List.setIfInBounds_toArray, List.set_cons_zero, List.set_cons_succ]
          refine planE_eff rfl (by rfl) (fun K hK => ?_)
          refine wp_store_row 73 (.tmp 10) (.tmp 60) (by rfl) bb #[.int .i64 kk, .string ⟨kn.toArray⟩, .int .i64 (ko : Int), .slice kA kd.length kc] (by rfl) (by rfl) 73 _ Hbb.out write_size rfl (by simp [Value.oneCell']) ?_
          have hbx := Lib.hid (Hbb.out.setRow #[.int .i64 kk, .string ⟨kn.toArray⟩, .int .i64 (ko : Int), .slice kA kd.length kc])
          have hox := Lib.hid (Hab.out.setRow_other #[.int .i64 kk, .string ⟨kn.toArray⟩, .int .i64 (ko : Int), .slice kA kd.length kc] (k := bb) (by first | assumption | (apply Ne.symm; assumption)))
          have hcz : Below wr.heap.size wr (wc.setRow bb #[.int .i64 kk, .string ⟨kn.toArray⟩, .int .i64 (ko : Int), .slice kA kd.length kc]) := below_set HBQ.out hgbb _
          clear HBQ Hbb Hab
          generalize wc.setRow bb #[.int .i64 kk, .string ⟨kn.toArray⟩, .int .i64 (ko : Int), .slice kA kd.length kc] = wd at *
          have Hbb := hbx
          have Hab := hox
          have HBQ := Lib.hid hcz
          clear p0 p1 p2 p3 q0 q1 q2 q3 r1 hcz hbx hox
          obtain ⟨p0, p1, p2, p3⟩ := HCS7.out wd (HBQ.out.block b7 hbl7)
          obtain ⟨q0, q1, q2, q3⟩ := HCS.out wd (HBQ.out.block bu hbl)
          have r1 := (HRr.out.below HBQ.out).blk.cell 1 rfl
          refine hK _ _ (by simp [owed, left] <;> (and_intros <;> first | trivial | assumption)) ?_
          clear hK K
          try simp only [List.getElem_toArray, List.getElem_cons_succ, List.getElem_cons_zero, Act.put, List.setIfInBounds_toArray, List.set_cons_zero, List.set_cons_succ]
          refine planE_end ?_
        all_goals
          have x0 := Hab.out.cell 0 rfl
          have x1 := Hab.out.cell 1 rfl
          have x2 := Hab.out.cell 2 rfl
          have x3 := Hab.out.cell 3 rfl
          have z0 := Hbb.out.cell 0 rfl
          have z1 := Hbb.out.cell 1 rfl
          have z2 := Hbb.out.cell 2 rfl
          have z3 := Hbb.out.cell 3 rfl
          have hc7 := convB kc7 (HD7.out.below HBQ.out)
          have hcu := convB kc (HDu.out.below HBQ.out)
          have hBf := hB.trans (HBQ.out.mono hB.size)
          clear Hab Hbb p0 p1 p2 p3 q0 q1 q2 q3 r1 HBQ
          go_wp2_with fail
          go_roundw
          case rel => exact ⟨k + 1, hlt1, by go_num, hBf⟩
          case measure => simp [intOf]; omega
      · obtain rfl : k = U.length := by omega
        have g4 := HRr.out.blk.cell 4 rfl
        rw [← HDN.out] at g4
        have HBR := Lib.hid hB
        clear hB hlt hk HRr HUr HU3 HL7 hv7
        first
        | (guard_hyp HDN : Hid (true = D.down)
           have hnl : (namesD D).length = 0 := by unfold namesD; rw [← HDN.out]; rfl
           rw [hnl]
           clear HV63
           go_wp2_with fail
           go_ret
           exact ⟨rfl, hB3.trans (HBR.out.mono hB3.size)⟩)
        | (have hnm : namesD D = D.files.map Prod.fst := by unfold namesD; rw [← HDN.out]; rfl
           have hnl : (namesD D).length = L5.length := by rw [hnm, List.length_map, HL5.out]
           have HNL := Lib.hid hnl
           have HNM := Lib.hid hnm
           rw [hnl]
           clear hnl hnm
           go_wp2_with fail
           go_loopw [11] (fun s11 wr => ∃ k : Nat, k ≤ L5.length ∧ s11 = .int .i64 (k : Int) ∧ Below w3.heap.size w3 wr) (fun s11 _ => L5.length - (intOf s11).toNat)
           case atStart => exact ⟨0, Nat.zero_le _, rfl, HBR.out⟩
           case round =>
             obtain ⟨k, hk, rfl, hB⟩ := hrel
             clear HBR
             by_cases hlt : k < L5.length
             · have hFO := HO53.out.below hB
               obtain ⟨bf, fo, hA5, hbf, f0, f1⟩ := hFO.rd.row hlt
               have HDF := Lib.hid (hFO.dat _ (List.getElem_mem hlt)).rb
               have hmf : L5[k].val ∈ D.files := by rw [← hv5.out]; exact List.mem_map.2 ⟨_, List.getElem_mem hlt, rfl⟩
               have hno : nameOk L5[k].name = true := HNF.out _ hmf
               have hget : fget D.files L5[k].name = some L5[k].data := fget_of_mem (rising_nodup HRIS.out) hmf
               have hre : readE D L5[k].name = 0 := by unfold readE; rw [← HDN.out, if_neg (by simp), if_neg (by rw [hno]; simp), hget]; rfl
               have hrb : readB D L5[k].name = L5[k].data := by unfold readB; rw [hre, if_pos rfl, hget]; rfl
               have RD := Lib.hid (diskReadC L5[k].name (HDI3.out.below hB) (by have := nameOk_len hno; omega))
               have hn6 : k < ((namesD D).map encStr).length := by rw [List.length_map, HNL.out]; exact hlt
               obtain ⟨bn, no, hA6, hbn, n0⟩ := (HV63.out.below hB).rv.cell hn6
               have hnv : ((namesD D).map encStr)[k] = .string ⟨L5[k].name.toArray⟩ := by
                 have e : (namesD D)[k]? = some L5[k].name := by rw [HNM.out, ← hv5.out]; simp [hlt, FRow.val]
                 have := congrArg (Option.map encStr) e
                 rw [← List.getElem?_map, List.getElem?_eq_getElem hn6] at this
                 exact Option.some.inj this
               rw [hnv] at n0
               unfold ReadEnd at RD
               rw [hre, hrb] at RD
               generalize L5[k].name = nm at *
               generalize L5[k].data = dat at *
               generalize L5[k].A = fA at *
               generalize L5[k].c = fc at *
               subst hA5 hA6
               have hlt1 : k + 1 ≤ L5.length := hlt
               have HF0 := Lib.hid f0
               have HF1 := Lib.hid f1
               have HN0 := Lib.hid n0
               clear hFO hmf hno hget hre hrb hnv n0 f1
               go_wp2_with fail
               refine RD.out.mono ?_
               rintro e w6 ⟨A8, c8, rfl, ho8, hb8⟩
               have hbf6 := Nat.lt_of_lt_of_le hbf hb8.size
               have hbn6 := Nat.lt_of_lt_of_le hbn hb8.size
               have hB6 := hB.trans (hb8.mono hB.size)
               have HC8 := Lib.hid ho8.rb
               have HDF6 := Lib.hid (HDF.out.below hb8)
               have HG0 := Lib.hid (hb8.cell (p := ⟨bf, fo + k * 2, none⟩) hbf |>.trans HF0.out)
               have HG1 := Lib.hid (hb8.cell (p := ⟨bf, fo + k * 2 + 1, none⟩) hbf |>.trans HF1.out)
               have HM0 := Lib.hid (hb8.cell (p := ⟨bn, no + k, none⟩) hbn |>.trans HN0.out)
               clear f0 RD HDF HF0 HF1 HN0 ho8
               go_wp2_with fail
               refine wp_region_planE_gen (by kernel_rfl) [(0, none), (1, none), (2, none), (3, none), (4, none), (5, none), (6, none), (7, none), (8, none), (9, none), (10, none), (11, none), (12, none), (13, none), (14, none), (15, none), (16, none), (17, none), (18, none), (19, none), (20, none), (21, none), (22, none), (23, none), (24, none)] (by kernel_rfl) (by kernel_rfl) (by decide) ?_
               intro wq hwq
               have hbq : Below w6.heap.size w6 wq := by rw [hwq]; exact (Below.refl _ _).drew
               have f0 := hbq.cell (p := ⟨bf, fo + k * 2, none⟩) hbf6 |>.trans HG0.out
               have f1 := hbq.cell (p := ⟨bf, fo + k * 2 + 1, none⟩) hbf6 |>.trans HG1.out
               have n0 := hbq.cell (p := ⟨bn, no + k, none⟩) hbn6 |>.trans HM0.out
               have hBq := hB6.trans (hbq.mono hB6.size)
               have HQ8 := Lib.hid (HC8.out.below hbq)
               have HQF := Lib.hid (HDF6.out.below hbq)
               clear hwq hbq
               iterate 3 (refine planE_pure (v := ?_) rfl (by rfl) (fun w' => ?_) ?_; rotate_left; (focus (simp only [List.getElem_toArray, List.getElem_cons_succ, List.getElem_cons_zero]; go_simp; first | with_reducible rfl | (simp (disch := omega) only [if_pos, if_neg, dif_pos, Result.andThen_ok]; try with_reducible rfl) | skip)); try simp only [List.getElem_toArray, List.getElem_cons_succ, List.getElem_cons_zero, Act.put, List.setIfInBounds_toArray, List.set_cons_zero, List.set_cons_succ])
               refine planE_cells (v := ?_) [(⟨bn, no + k, none⟩, .string ⟨nm.toArray⟩)] (by simp; and_intros <;> assumption) rfl (by rfl) (fun w' hw' => ?_) ?_; rotate_left; (focus (simp only [List.forall_mem_cons, List.not_mem_nil, false_imp_iff, implies_true, and_true] at hw'; simp only [List.getElem_toArray, List.getElem_cons_succ, List.getElem_cons_zero]; go_simp; first | with_reducible rfl | (simp (disch := omega) only [if_pos, if_neg, dif_pos, Result.andThen_ok]; try with_reducible rfl) | skip)); try simp only [List.getElem_toArray, List.getElem_cons_succ, List.getElem_cons_zero, Act.put, List.setIfInBounds_toArray, List.set_cons_zero, List.set_cons_succ]
               iterate 4 (refine planE_pure (v := ?_) rfl (by rfl) (fun w' => ?_) ?_; rotate_left; (focus (simp only [List.getElem_toArray, List.getElem_cons_succ, List.getElem_cons_zero]; go_simp; first | with_reducible rfl | (simp (disch := omega) only [if_pos, if_neg, dif_pos, Result.andThen_ok]; try with_reducible rfl) | skip)); try simp only [List.getElem_toArray, List.getElem_cons_succ, List.getElem_cons_zero, Act.put, List.setIfInBounds_toArray, List.set_cons_zero, List.set_cons_succ])
               refine planE_cells (v := ?_) [(⟨bf, fo + k * 2, none⟩, .string ⟨nm.toArray⟩)] (by simp; and_intros <;> assumption) rfl (by rfl) (fun w' hw' => ?_) ?_; rotate_left; (focus (simp only [List.forall_mem_cons, List.not_mem_nil, false_imp_iff, implies_true, and_true] at hw'; simp only [List.getElem_toArray, List.getElem_cons_succ, List.getElem_cons_zero]; go_simp; first | with_reducible rfl | (simp (disch := omega) only [if_pos, if_neg, dif_pos, Result.andThen_ok]; try with_reducible rfl) | skip)); try simp only [List.getElem_toArray, List.getElem_cons_succ, List.getElem_cons_zero, Act.put, List.setIfInBounds_toArray, List.set_cons_zero, List.set_cons_succ]
               iterate 7 (refine planE_pure (v := ?_) rfl (by rfl) (fun w' => ?_) ?_; rotate_left; (focus (simp only [List.getElem_toArray, List.getElem_cons_succ, List.getElem_cons_zero]; go_simp; first | with_reducible rfl | (simp (disch := omega) only [if_pos, if_neg, dif_pos, Result.andThen_ok]; try with_reducible rfl) | skip)); try simp only [List.getElem_toArray, List.getElem_cons_succ, List.getElem_cons_zero, Act.put, List.setIfInBounds_toArray, List.set_cons_zero, List.set_cons_succ])
               refine planE_read (v := ?_) (fun w' => (convert 23 9 (.slice A8 dat.length c8)).run Tryd.prog w' = .ok (.string ⟨dat.toArray⟩) w') rfl (by rfl) (fun w' hw' => ?_) (convB c8 HQ8.out) ?_; rotate_left; (focus (simp only [List.getElem_toArray, List.getElem_cons_succ, List.getElem_cons_zero]; go_simp; first | with_reducible rfl | (simp (disch := omega) only [if_pos, if_neg, dif_pos, Result.andThen_ok]; try with_reducible rfl) | skip)); try simp only [List.getElem_toArray, List.getElem_cons_succ, List.getElem_cons_zero, Act.put, List.setIfInBounds_toArray, List.set_cons_zero, List.set_cons_succ]
               iterate 4 (refine planE_pure (v := ?_) rfl (by rfl) (fun w' => ?_) ?_; rotate_left; (focus (simp only [List.getElem_toArray, List.getElem_cons_succ, List.getElem_cons_zero]; go_simp; first | with_reducible rfl | (simp (disch := omega) only [if_pos, if_neg, dif_pos, Result.andThen_ok]; try with_reducible rfl) | skip)); try simp only [List.getElem_toArray, List.getElem_cons_succ, List.getElem_cons_zero, Act.put, List.setIfInBounds_toArray, List.set_cons_zero, List.set_cons_succ])
               refine planE_cells (v := ?_) [(⟨bf, fo + k * 2 + 1, none⟩, .slice fA dat.length fc)] (by simp; and_intros <;> assumption) rfl (by rfl) (fun w' hw' => ?_) ?_; rotate_left; (focus (simp only [List.forall_mem_cons, List.not_mem_nil, false_imp_iff, implies_true, and_true] at hw'; simp only [List.getElem_toArray, List.getElem_cons_succ, List.getElem_cons_zero]; go_simp; first | with_reducible rfl | (simp (disch := omega) only [if_pos, if_neg, dif_pos, Result.andThen_ok]; try with_reducible rfl) | skip)); try simp only [List.getElem_toArray, List.getElem_cons_succ, List.getElem_cons_zero, Act.put, List.setIfInBounds_toArray, List.set_cons_zero, List.set_cons_succ]
               refine planE_read (v := ?_) (fun w' => (convert 23 9 (.slice fA dat.length fc)).run Tryd.prog w' = .ok (.string ⟨dat.toArray⟩) w') rfl (by rfl) (fun w' hw' => ?_) (convB fc HQF.out) ?_; rotate_left; (focus (simp only [List.getElem_toArray, List.getElem_cons_succ, List.getElem_cons_zero]; go_simp; first | with_reducible rfl | (simp (disch := omega) only [if_pos, if_neg, dif_pos, Result.andThen_ok]; try with_reducible rfl) | skip)); try simp only [List.getElem_toArray, List.getElem_cons_succ, List.getElem_cons_zero, Act.put, List.setIfInBounds_toArray, List.set_cons_zero, List.set_cons_succ]
               iterate 2 (refine planE_pure (v := ?_) rfl (by rfl) (fun w' => ?_) ?_; rotate_left; (focus (simp only [List.getElem_toArray, List.getElem_cons_succ, List.getElem_cons_zero]; go_simp; first | with_reducible rfl | (simp (disch := omega) only [if_pos, if_neg, dif_pos, Result.andThen_ok]; try with_reducible rfl) | skip)); try simp only [List.getElem_toArray, List.getElem_cons_succ, List.getElem_cons_zero, Act.put, List.setIfInBounds_toArray, List.set_cons_zero, List.set_cons_succ])
               refine planE_end ?_
               clear f0 f1 n0
               go_wp2_with fail
               go_roundw
               case rel => exact ⟨k + 1, hlt1, by go_num, hBq⟩
               case measure => simp [intOf]; omega
             · obtain rfl : k = L5.length := by omega
               go_wp2_with fail
               go_ret
               exact ⟨rfl, hB3.trans (hB.mono hB3.size)⟩)
end
end Go.Proofs.YthdmnajcphaekaaDoor
