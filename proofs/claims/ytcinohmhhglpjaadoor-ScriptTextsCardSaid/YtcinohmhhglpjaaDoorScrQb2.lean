/- Contracts of the reference's readers: ToAct. -/
import Derived.Test.YtcinohmhhglpjaaDoorScrQa
namespace Go.Proofs.YtcinohmhhglpjaaDoor
open Go.RowKit


set_option maxRecDepth 20000 in
set_option maxHeartbeats 8000000 in
theorem refToAct_10 (s : List UInt8) (hs : s.length ≤ 4294967280) {w0 w1 w2 w3 w4 w5 w6 w7 w8 w9 w10 w11 w12 : List UInt8} (hp : parts 32 s = [w0, w1, w2, w3, w4, w5, w6, w7, w8, w9, w10, w11, w12]) (e0 : (kindOf w0).isSome = true) (e1 : (pint w1).isSome = true) (e2 : (pint w2).isSome = true) (e3 : (pint w3).isSome = true) (e4 : (pnum w4).isSome = true) (e5 : (pnum w5).isSome = true) (e6 : (pnum w6).isSome = true) (e7 : (pnum w7).isSome = true) (e8 : (pint w8).isSome = true) (e9 : (pkey w9).isSome = true) (e10 : (pint w10).isSome = false) (w : World) : Calls Tryd.prog 15 #[.string ⟨s.toArray⟩] w (RefToActE s w) := by
  have HRES : Hid (readAct s = none) := Lib.hid (by
    cases h : readAct s with
    | none => rfl
    | some a =>
      obtain ⟨q0, q1, q2, q3, q4, q5, q6, q7, q8, q9, q10, q11, q12, qo⟩ := readAct_parts hp h
      rw [q10] at e10; cases e10)
  have hlen : ∀ x ∈ parts 32 s, x.length ≤ 140737488351232 := fun x hx => by have := parts_len 32 s x hx; omega
  have HP := Lib.hid hp
  rw [hp] at hlen
  have CW := Lib.hid (refWords s hs)
  clear HP
  unfold WordsE at CW
  simp only [hp] at CW
  have C1 := Lib.hid (refInt w1 (hlen _ (by simp)))
  unfold IntE at C1
  simp only [e1] at C1
  have C2 := Lib.hid (refInt w2 (hlen _ (by simp)))
  unfold IntE at C2
  simp only [e2] at C2
  have C3 := Lib.hid (refInt w3 (hlen _ (by simp)))
  unfold IntE at C3
  simp only [e3] at C3
  have C4 := Lib.hid (refNum w4 (hlen _ (by simp)))
  unfold NumE at C4
  simp only [e4] at C4
  have C5 := Lib.hid (refNum w5 (hlen _ (by simp)))
  unfold NumE at C5
  simp only [e5] at C5
  have C6 := Lib.hid (refNum w6 (hlen _ (by simp)))
  unfold NumE at C6
  simp only [e6] at C6
  have C7 := Lib.hid (refNum w7 (hlen _ (by simp)))
  unfold NumE at C7
  simp only [e7] at C7
  have C8 := Lib.hid (refInt w8 (hlen _ (by simp)))
  unfold IntE at C8
  simp only [e8] at C8
  have C9 := Lib.hid (refKey w9 (hlen _ (by simp)))
  unfold KeyE at C9
  simp only [e9] at C9
  have C10 := Lib.hid (refInt w10 (hlen _ (by simp)))
  unfold IntE at C10
  simp only [e10] at C10
  have C11 := Lib.hid (refInt w11 (hlen _ (by simp)))
  unfold IntE at C11
  generalize (pint w11).isSome = b11 at C11
  have C12 := Lib.hid (refNum w12 (hlen _ (by simp)))
  unfold NumE at C12
  generalize (pnum w12).isSome = b12 at C12
  have HE0 := Lib.hid e0
  clear hp hlen e0 e1 e2 e3 e4 e5 e6 e7 e8 e9 e10 
  have hb0 : Below w.heap.size w (w.alloc (.cells #[.int .i64 0, .int .i64 0, .int .i64 0, .int .i64 0, .int .u64 0, .int .u64 0, .int .u64 0, .int .u64 0, .int .i64 0, .string ⟨#[]⟩, .int .i64 0, .int .i64 0, .int .u64 0] 35)) := (Below.refl _ _).alloc (Nat.le_refl _) _
  have HA0 := Lib.hid hb0
  have HX0 := Lib.hid (Blk.new w #[.int .i64 0, .int .i64 0, .int .i64 0, .int .i64 0, .int .u64 0, .int .u64 0, .int .u64 0, .int .u64 0, .int .i64 0, .string ⟨#[]⟩, .int .i64 0, .int .i64 0, .int .u64 0] 35)
  clear hb0
  go_enter Tryd.func15, Tryd.ntmps15
  go_wp2_with (go_at_call 45; refine (CW.out _).mono ?_)
  first | rintro e x0 ⟨hb, A, c, rfl, hr⟩ | rintro e x0 hb A c rfl hr
  obtain ⟨b, off, rfl, hlt, hc⟩ := hr.at_ (by simp [svals])
  have HA1 := Lib.hid (HA0.out.trans (hb.mono HA0.out.size))
  have HX1 := Lib.hid (HX0.out.kept hb)
  have hlt0 := HX1.out.lt
  have HN := Lib.hid (Blk.new x0 #[.int .i64 0, .int .i64 0, .int .i64 0, .int .i64 0, .int .u64 0, .int .u64 0, .int .u64 0, .int .u64 0, .int .i64 0, .string ⟨#[]⟩, .int .i64 0, .int .i64 0, .int .u64 0] 35)
  obtain ⟨hb2, hx2⟩ := row_in w x0 #[.int .i64 0, .int .i64 0, .int .i64 0, .int .i64 0, .int .u64 0, .int .u64 0, .int .u64 0, .int .u64 0, .int .i64 0, .string ⟨#[]⟩, .int .i64 0, .int .i64 0, .int .u64 0] #[.int .i64 0, .int .i64 0, .int .i64 0, .int .i64 0, .int .u64 0, .int .u64 0, .int .u64 0, .int .u64 0, .int .i64 0, .string ⟨#[]⟩, .int .i64 0, .int .i64 0, .int .u64 0] 35 HA1.out
  have HA2 := Lib.hid hb2
  have HG2 := Lib.hid hx2
  have HX2 : Hid (Blk ((x0.alloc (.cells #[.int .i64 0, .int .i64 0, .int .i64 0, .int .i64 0, .int .u64 0, .int .u64 0, .int .u64 0, .int .u64 0, .int .i64 0, .string ⟨#[]⟩, .int .i64 0, .int .i64 0, .int .u64 0] 35)).setRow x0.heap.size #[.int .i64 0, .int .i64 0, .int .i64 0, .int .i64 0, .int .u64 0, .int .u64 0, .int .u64 0, .int .u64 0, .int .i64 0, .string ⟨#[]⟩, .int .i64 0, .int .i64 0, .int .u64 0]) w.heap.size 35 #[.int .i64 0, .int .i64 0, .int .i64 0, .int .i64 0, .int .u64 0, .int .u64 0, .int .u64 0, .int .u64 0, .int .i64 0, .string ⟨#[]⟩, .int .i64 0, .int .i64 0, .int .u64 0]) := Lib.hid ((HX1.out.kept ((Below.refl _ _).alloc (Nat.le_refl _) _)).setRow_other (k := x0.heap.size) #[.int .i64 0, .int .i64 0, .int .i64 0, .int .i64 0, .int .u64 0, .int .u64 0, .int .u64 0, .int .u64 0, .int .i64 0, .string ⟨#[]⟩, .int .i64 0, .int .i64 0, .int .u64 0] (by omega))
  have HR2 : Hid (∀ j v, (svals [w0, w1, w2, w3, w4, w5, w6, w7, w8, w9, w10, w11, w12])[j]? = some v → World.cell? ((x0.alloc (.cells #[.int .i64 0, .int .i64 0, .int .i64 0, .int .i64 0, .int .u64 0, .int .u64 0, .int .u64 0, .int .u64 0, .int .i64 0, .string ⟨#[]⟩, .int .i64 0, .int .i64 0, .int .u64 0] 35)).setRow x0.heap.size #[.int .i64 0, .int .i64 0, .int .i64 0, .int .i64 0, .int .u64 0, .int .u64 0, .int .u64 0, .int .u64 0, .int .i64 0, .string ⟨#[]⟩, .int .i64 0, .int .i64 0, .int .u64 0]) ⟨b, off + j, none⟩ = some v) := Lib.hid fun j v hv => by
    rw [cell_setRow_other _ _ _ _ (by simp only; omega), ((Below.refl x0.heap.size x0).alloc (Nat.le_refl _) _).cell (p := ⟨b, off + j, none⟩) hlt]
    exact hc j v hv
  have hlt2 : b < (((x0.alloc (.cells #[.int .i64 0, .int .i64 0, .int .i64 0, .int .i64 0, .int .u64 0, .int .u64 0, .int .u64 0, .int .u64 0, .int .i64 0, .string ⟨#[]⟩, .int .i64 0, .int .i64 0, .int .u64 0] 35)).setRow x0.heap.size #[.int .i64 0, .int .i64 0, .int .i64 0, .int .i64 0, .int .u64 0, .int .u64 0, .int .u64 0, .int .u64 0, .int .i64 0, .string ⟨#[]⟩, .int .i64 0, .int .i64 0, .int .u64 0])).heap.size := by simp; omega
  clear hb hr hc hb2 hx2 HA0 HA1 HX0 HX1 CW
  go_wp2_with (refine wpList_store_row rfl 35 (.tmp 5) (.tmp 14) rfl x0.heap.size #[.int .i64 0, .int .i64 0, .int .i64 0, .int .i64 0, .int .u64 0, .int .u64 0, .int .u64 0, .int .u64 0, .int .i64 0, .string ⟨#[]⟩, .int .i64 0, .int .i64 0, .int .u64 0] rfl rfl _ _ HN.out act_size rfl (by simp [Value.oneCell']) ?_)
  go_loopw [6] (fun i wr => ∃ (k : Nat) (K : Int), 1 ≤ k ∧ k ≤ 19 ∧ i = .int .i64 (k : Int) ∧ 0 ≤ K ∧ K ≤ 18 ∧ Hid (KdInv w0 k K) ∧ Hid (Blk wr x0.heap.size 35 #[.int .i64 K, .int .i64 0, .int .i64 0, .int .i64 0, .int .u64 0, .int .u64 0, .int .u64 0, .int .u64 0, .int .i64 0, .string ⟨#[]⟩, .int .i64 0, .int .i64 0, .int .u64 0]) ∧ Hid (Mods (· = x0.heap.size) ((x0.alloc (.cells #[.int .i64 0, .int .i64 0, .int .i64 0, .int .i64 0, .int .u64 0, .int .u64 0, .int .u64 0, .int .u64 0, .int .i64 0, .string ⟨#[]⟩, .int .i64 0, .int .i64 0, .int .u64 0] 35)).setRow x0.heap.size #[.int .i64 0, .int .i64 0, .int .i64 0, .int .i64 0, .int .u64 0, .int .u64 0, .int .u64 0, .int .u64 0, .int .i64 0, .string ⟨#[]⟩, .int .i64 0, .int .i64 0, .int .u64 0]) wr)) (fun i _ => 19 - (intOf i).toNat)
  case atStart => exact ⟨1, 0, by omega, by omega, rfl, by omega, by omega, Lib.hid (KdInv.start _), HG2, Lib.hid (Mods.refl _ _)⟩
  case round =>
    obtain ⟨k, K, hk1, hk2, rfl, hK1, hK2, HI, HG, HM⟩ := hrel
    by_cases hk : k ≤ 18
    · have hgl := HG.out.lt
      have WC := Lib.hid (refWord (k : Int) (by omega) (by omega))
      have HW : Hid (wordOf (k : Int) = kindWord k) := Lib.hid (by unfold wordOf; rw [if_pos ⟨by omega, by omega⟩]; rfl)
      rw [HW.out] at WC
      have HHIT := Lib.hid (fun h => KdInv.hit (s := w0) (k := k) h hk1)
      have HMISS := Lib.hid (fun h => HI.out.miss h)
      have h0 : World.cell? wr ⟨b, off, none⟩ = some (.string ⟨w0.toArray⟩) := (HM.out.cell (p := ⟨b, off, none⟩) hlt2 (by simp only; omega)).trans (HR2.out 0 _ rfl)
      have hbl : b < wr.heap.size := Nat.lt_of_lt_of_le hlt2 HM.out.size
      generalize kindWord k = kw at *
      clear HI HW
      go_wp2_with fail
      refine wp_region_plan_gen (by kernel_rfl) [(0, true), (2, true), (3, true), (4, true), (1, false), (5, true)] (by kernel_rfl) (by kernel_rfl) (by decide) ?_
      intro y0 hy0
      have B0 : Hid (Below wr.heap.size wr y0) := Lib.hid (by rw [hy0]; exact (Below.refl _ _).drew)
      have ld0 : ∀ w', Ext y0 w' → w'.cell? ⟨b, off, none⟩ = some (.string ⟨w0.toArray⟩) := fun w' hw => (hw.cell (by rw [hy0]; simpa using hbl)).trans (by rw [hy0]; simpa using h0)
      clear hy0
      iterate 4 (refine plan_pure (v := ?_) rfl (by rfl) (fun w' hw' => ?_) ?_; rotate_left; (focus (simp only [List.getElem_toArray, List.getElem_cons_succ, List.getElem_cons_zero]; go_simp; try with_reducible rfl)); try simp only [List.getElem_toArray, List.getElem_cons_succ, List.getElem_cons_zero, Act.put, List.setIfInBounds_toArray, List.set_cons_zero, List.set_cons_succ])
      refine plan_call rfl (by rfl) (fun Q hQ => ?_)
      go_simp
      refine (WC.out y0).mono ?_
      rintro e y1 ⟨rfl, hby⟩
      refine hQ _ _ hby ?_
      clear hQ Q
      have B1 := Lib.hid (B0.out.trans (hby.mono B0.out.size))
      have HG1 := Lib.hid (HG.out.kept B1.out)
      have HM1 := Lib.hid (HM.out.below B1.out)
      clear hby
      try simp only [List.getElem_toArray, List.getElem_cons_succ, List.getElem_cons_zero, Act.put, List.setIfInBounds_toArray, List.set_cons_zero, List.set_cons_succ]
      iterate 1 (refine plan_pure (v := ?_) rfl (by rfl) (fun w' hw' => ?_) ?_; rotate_left; (focus (simp only [List.getElem_toArray, List.getElem_cons_succ, List.getElem_cons_zero]; go_simp; try with_reducible rfl)); try simp only [List.getElem_toArray, List.getElem_cons_succ, List.getElem_cons_zero, Act.put, List.setIfInBounds_toArray, List.set_cons_zero, List.set_cons_succ])
      refine plan_end ?_
      by_cases hkw : kw = w0
      · have HH := Lib.hid (HHIT.out hkw)
        rw [show (kw == w0) = true from beq_iff_eq.2 hkw]
        have q0 := HG1.out.cell 0 rfl
        have qf := HG1.out.free 0
        have HG2 : Hid (Blk (y1.setCell ⟨x0.heap.size, 0, none⟩ (.int .i64 (k : Int))) x0.heap.size 35 #[.int .i64 (k : Int), .int .i64 0, .int .i64 0, .int .i64 0, .int .u64 0, .int .u64 0, .int .u64 0, .int .u64 0, .int .i64 0, .string ⟨#[]⟩, .int .i64 0, .int .i64 0, .int .u64 0]) := Lib.hid (HG1.out.setCell 0 _)
        have HM2 := Lib.hid (HM1.out.setCell ⟨x0.heap.size, 0, none⟩ (.inl rfl) (.int .i64 (k : Int)))
        clear HHIT HMISS hkw ld0
        go_wp2_with fail
        go_roundw
        case rel => exact ⟨k + 1, (k : Int), by omega, by omega, by go_num, by omega, by omega, HH, HG2, HM2⟩
        case measure => simp [intOf]; omega
      · have HH := Lib.hid (HMISS.out hkw)
        rw [show (kw == w0) = false from beq_eq_false_iff_ne.2 hkw]
        clear HHIT HMISS hkw ld0
        go_wp2_with fail
        go_roundw
        case rel => exact ⟨k + 1, K, by omega, by omega, by go_num, by omega, by omega, HH, HG1, HM1⟩
        case measure => simp [intOf]; omega
    · obtain rfl : k = 19 := by omega
      have hf := HI.out.fin hK2
      have he0 := HE0.out
      have hK3 : 0 < K := by
        rcases hf with ⟨h, _⟩ | ⟨_, h⟩
        · rw [h] at he0; cases he0
        · exact h
      clear HI hf he0 hk1 hk2 hk HE0
      have l1 : World.cell? wr ⟨b, off + 1, none⟩ = some (.string ⟨w1.toArray⟩) := (HM.out.cell (p := ⟨b, off + 1, none⟩) hlt2 (by simp only; omega)).trans (HR2.out 1 _ rfl)
      go_wp2_with (go_at_call 46; refine (C1.out _).mono ?_)
      first | rintro e x1 ⟨bb, n1, hin, rfl, hv⟩ | rintro e x1 bb n1 hin rfl hv
      have G1 := Lib.hid (HG.out.kept bb)
      have M1 := Lib.hid (HM.out.below bb)
      clear bb hv hin l1 HG HM C1
      have l2 : World.cell? x1 ⟨b, off + 2, none⟩ = some (.string ⟨w2.toArray⟩) := (M1.out.cell (p := ⟨b, off + 2, none⟩) hlt2 (by simp only; omega)).trans (HR2.out 2 _ rfl)
      go_wp2_with (go_at_call 46; refine (C2.out _).mono ?_)
      first | rintro e x2 ⟨bb, n2, hin, rfl, hv⟩ | rintro e x2 bb n2 hin rfl hv
      have G2 := Lib.hid (G1.out.kept bb)
      have M2 := Lib.hid (M1.out.below bb)
      clear bb hv hin l2 G1 M1 C2
      have q1 := G2.out.cell 1 rfl
      have f1 := G2.out.free 1
      have G3 : Hid (Blk (x2.setCell ⟨x0.heap.size, 1, none⟩ (.int .i64 n1)) x0.heap.size 35 #[.int .i64 K, .int .i64 n1, .int .i64 0, .int .i64 0, .int .u64 0, .int .u64 0, .int .u64 0, .int .u64 0, .int .i64 0, .string ⟨#[]⟩, .int .i64 0, .int .i64 0, .int .u64 0]) := Lib.hid (G2.out.setCell 1 _)
      have M3 : Hid (Mods (· = x0.heap.size) ((x0.alloc (.cells #[.int .i64 0, .int .i64 0, .int .i64 0, .int .i64 0, .int .u64 0, .int .u64 0, .int .u64 0, .int .u64 0, .int .i64 0, .string ⟨#[]⟩, .int .i64 0, .int .i64 0, .int .u64 0] 35)).setRow x0.heap.size #[.int .i64 0, .int .i64 0, .int .i64 0, .int .i64 0, .int .u64 0, .int .u64 0, .int .u64 0, .int .u64 0, .int .i64 0, .string ⟨#[]⟩, .int .i64 0, .int .i64 0, .int .u64 0]) (x2.setCell ⟨x0.heap.size, 1, none⟩ (.int .i64 n1))) := Lib.hid (M2.out.setCell _ (.inl rfl) _)
      clear G2 M2
      have q2 := G3.out.cell 2 rfl
      have f2 := G3.out.free 2
      have G4 : Hid (Blk ((x2.setCell ⟨x0.heap.size, 1, none⟩ (.int .i64 n1)).setCell ⟨x0.heap.size, 2, none⟩ (.int .i64 n2)) x0.heap.size 35 #[.int .i64 K, .int .i64 n1, .int .i64 n2, .int .i64 0, .int .u64 0, .int .u64 0, .int .u64 0, .int .u64 0, .int .i64 0, .string ⟨#[]⟩, .int .i64 0, .int .i64 0, .int .u64 0]) := Lib.hid (G3.out.setCell 2 _)
      have M4 : Hid (Mods (· = x0.heap.size) ((x0.alloc (.cells #[.int .i64 0, .int .i64 0, .int .i64 0, .int .i64 0, .int .u64 0, .int .u64 0, .int .u64 0, .int .u64 0, .int .i64 0, .string ⟨#[]⟩, .int .i64 0, .int .i64 0, .int .u64 0] 35)).setRow x0.heap.size #[.int .i64 0, .int .i64 0, .int .i64 0, .int .i64 0, .int .u64 0, .int .u64 0, .int .u64 0, .int .u64 0, .int .i64 0, .string ⟨#[]⟩, .int .i64 0, .int .i64 0, .int .u64 0]) ((x2.setCell ⟨x0.heap.size, 1, none⟩ (.int .i64 n1)).setCell ⟨x0.heap.size, 2, none⟩ (.int .i64 n2))) := Lib.hid (M3.out.setCell _ (.inl rfl) _)
      clear G3 M3
      have l3 : World.cell? ((x2.setCell ⟨x0.heap.size, 1, none⟩ (.int .i64 n1)).setCell ⟨x0.heap.size, 2, none⟩ (.int .i64 n2)) ⟨b, off + 3, none⟩ = some (.string ⟨w3.toArray⟩) := (M4.out.cell (p := ⟨b, off + 3, none⟩) hlt2 (by simp only; omega)).trans (HR2.out 3 _ rfl)
      have lk := G4.out.cell 0 rfl
      go_wp2_with (go_at_call 46; refine (C3.out _).mono ?_)
      first | rintro e x3 ⟨bb, n3, hin, rfl, hv⟩ | rintro e x3 bb n3 hin rfl hv
      have G5 := Lib.hid (G4.out.kept bb)
      have M5 := Lib.hid (M4.out.below bb)
      clear bb hv hin l3 G4 M4 lk C3
      have q3 := G5.out.cell 3 rfl
      have f3 := G5.out.free 3
      have G6 : Hid (Blk (x3.setCell ⟨x0.heap.size, 3, none⟩ (.int .i64 n3)) x0.heap.size 35 #[.int .i64 K, .int .i64 n1, .int .i64 n2, .int .i64 n3, .int .u64 0, .int .u64 0, .int .u64 0, .int .u64 0, .int .i64 0, .string ⟨#[]⟩, .int .i64 0, .int .i64 0, .int .u64 0]) := Lib.hid (G5.out.setCell 3 _)
      have M6 : Hid (Mods (· = x0.heap.size) ((x0.alloc (.cells #[.int .i64 0, .int .i64 0, .int .i64 0, .int .i64 0, .int .u64 0, .int .u64 0, .int .u64 0, .int .u64 0, .int .i64 0, .string ⟨#[]⟩, .int .i64 0, .int .i64 0, .int .u64 0] 35)).setRow x0.heap.size #[.int .i64 0, .int .i64 0, .int .i64 0, .int .i64 0, .int .u64 0, .int .u64 0, .int .u64 0, .int .u64 0, .int .i64 0, .string ⟨#[]⟩, .int .i64 0, .int .i64 0, .int .u64 0]) (x3.setCell ⟨x0.heap.size, 3, none⟩ (.int .i64 n3))) := Lib.hid (M5.out.setCell _ (.inl rfl) _)
      clear G5 M5
      have l4 : World.cell? (x3.setCell ⟨x0.heap.size, 3, none⟩ (.int .i64 n3)) ⟨b, off + 4, none⟩ = some (.string ⟨w4.toArray⟩) := (M6.out.cell (p := ⟨b, off + 4, none⟩) hlt2 (by simp only; omega)).trans (HR2.out 4 _ rfl)
      go_wp2_with (go_at_call 47; refine (C4.out _).mono ?_)
      first | rintro e x4 ⟨bb, n4, hin, rfl, hv⟩ | rintro e x4 bb n4 hin rfl hv
      have G7 := Lib.hid (G6.out.kept bb)
      have M7 := Lib.hid (M6.out.below bb)
      clear bb hv hin l4 G6 M6 C4
      have q4 := G7.out.cell 4 rfl
      have f4 := G7.out.free 4
      have G8 : Hid (Blk (x4.setCell ⟨x0.heap.size, 4, none⟩ (.int .u64 n4)) x0.heap.size 35 #[.int .i64 K, .int .i64 n1, .int .i64 n2, .int .i64 n3, .int .u64 n4, .int .u64 0, .int .u64 0, .int .u64 0, .int .i64 0, .string ⟨#[]⟩, .int .i64 0, .int .i64 0, .int .u64 0]) := Lib.hid (G7.out.setCell 4 _)
      have M8 : Hid (Mods (· = x0.heap.size) ((x0.alloc (.cells #[.int .i64 0, .int .i64 0, .int .i64 0, .int .i64 0, .int .u64 0, .int .u64 0, .int .u64 0, .int .u64 0, .int .i64 0, .string ⟨#[]⟩, .int .i64 0, .int .i64 0, .int .u64 0] 35)).setRow x0.heap.size #[.int .i64 0, .int .i64 0, .int .i64 0, .int .i64 0, .int .u64 0, .int .u64 0, .int .u64 0, .int .u64 0, .int .i64 0, .string ⟨#[]⟩, .int .i64 0, .int .i64 0, .int .u64 0]) (x4.setCell ⟨x0.heap.size, 4, none⟩ (.int .u64 n4))) := Lib.hid (M7.out.setCell _ (.inl rfl) _)
      clear G7 M7
      have l5 : World.cell? (x4.setCell ⟨x0.heap.size, 4, none⟩ (.int .u64 n4)) ⟨b, off + 5, none⟩ = some (.string ⟨w5.toArray⟩) := (M8.out.cell (p := ⟨b, off + 5, none⟩) hlt2 (by simp only; omega)).trans (HR2.out 5 _ rfl)
      go_wp2_with (go_at_call 47; refine (C5.out _).mono ?_)
      first | rintro e x5 ⟨bb, n5, hin, rfl, hv⟩ | rintro e x5 bb n5 hin rfl hv
      have G9 := Lib.hid (G8.out.kept bb)
      have M9 := Lib.hid (M8.out.below bb)
      clear bb hv hin l5 G8 M8 C5
      have q5 := G9.out.cell 5 rfl
      have f5 := G9.out.free 5
      have G10 : Hid (Blk (x5.setCell ⟨x0.heap.size, 5, none⟩ (.int .u64 n5)) x0.heap.size 35 #[.int .i64 K, .int .i64 n1, .int .i64 n2, .int .i64 n3, .int .u64 n4, .int .u64 n5, .int .u64 0, .int .u64 0, .int .i64 0, .string ⟨#[]⟩, .int .i64 0, .int .i64 0, .int .u64 0]) := Lib.hid (G9.out.setCell 5 _)
      have M10 : Hid (Mods (· = x0.heap.size) ((x0.alloc (.cells #[.int .i64 0, .int .i64 0, .int .i64 0, .int .i64 0, .int .u64 0, .int .u64 0, .int .u64 0, .int .u64 0, .int .i64 0, .string ⟨#[]⟩, .int .i64 0, .int .i64 0, .int .u64 0] 35)).setRow x0.heap.size #[.int .i64 0, .int .i64 0, .int .i64 0, .int .i64 0, .int .u64 0, .int .u64 0, .int .u64 0, .int .u64 0, .int .i64 0, .string ⟨#[]⟩, .int .i64 0, .int .i64 0, .int .u64 0]) (x5.setCell ⟨x0.heap.size, 5, none⟩ (.int .u64 n5))) := Lib.hid (M9.out.setCell _ (.inl rfl) _)
      clear G9 M9
      have l6 : World.cell? (x5.setCell ⟨x0.heap.size, 5, none⟩ (.int .u64 n5)) ⟨b, off + 6, none⟩ = some (.string ⟨w6.toArray⟩) := (M10.out.cell (p := ⟨b, off + 6, none⟩) hlt2 (by simp only; omega)).trans (HR2.out 6 _ rfl)
      go_wp2_with (go_at_call 47; refine (C6.out _).mono ?_)
      first | rintro e x6 ⟨bb, n6, hin, rfl, hv⟩ | rintro e x6 bb n6 hin rfl hv
      have G11 := Lib.hid (G10.out.kept bb)
      have M11 := Lib.hid (M10.out.below bb)
      clear bb hv hin l6 G10 M10 C6
      have q6 := G11.out.cell 6 rfl
      have f6 := G11.out.free 6
      have G12 : Hid (Blk (x6.setCell ⟨x0.heap.size, 6, none⟩ (.int .u64 n6)) x0.heap.size 35 #[.int .i64 K, .int .i64 n1, .int .i64 n2, .int .i64 n3, .int .u64 n4, .int .u64 n5, .int .u64 n6, .int .u64 0, .int .i64 0, .string ⟨#[]⟩, .int .i64 0, .int .i64 0, .int .u64 0]) := Lib.hid (G11.out.setCell 6 _)
      have M12 : Hid (Mods (· = x0.heap.size) ((x0.alloc (.cells #[.int .i64 0, .int .i64 0, .int .i64 0, .int .i64 0, .int .u64 0, .int .u64 0, .int .u64 0, .int .u64 0, .int .i64 0, .string ⟨#[]⟩, .int .i64 0, .int .i64 0, .int .u64 0] 35)).setRow x0.heap.size #[.int .i64 0, .int .i64 0, .int .i64 0, .int .i64 0, .int .u64 0, .int .u64 0, .int .u64 0, .int .u64 0, .int .i64 0, .string ⟨#[]⟩, .int .i64 0, .int .i64 0, .int .u64 0]) (x6.setCell ⟨x0.heap.size, 6, none⟩ (.int .u64 n6))) := Lib.hid (M11.out.setCell _ (.inl rfl) _)
      clear G11 M11
      have l7 : World.cell? (x6.setCell ⟨x0.heap.size, 6, none⟩ (.int .u64 n6)) ⟨b, off + 7, none⟩ = some (.string ⟨w7.toArray⟩) := (M12.out.cell (p := ⟨b, off + 7, none⟩) hlt2 (by simp only; omega)).trans (HR2.out 7 _ rfl)
      go_wp2_with (go_at_call 47; refine (C7.out _).mono ?_)
      first | rintro e x7 ⟨bb, n7, hin, rfl, hv⟩ | rintro e x7 bb n7 hin rfl hv
      have G13 := Lib.hid (G12.out.kept bb)
      have M13 := Lib.hid (M12.out.below bb)
      clear bb hv hin l7 G12 M12 C7
      have q7 := G13.out.cell 7 rfl
      have f7 := G13.out.free 7
      have G14 : Hid (Blk (x7.setCell ⟨x0.heap.size, 7, none⟩ (.int .u64 n7)) x0.heap.size 35 #[.int .i64 K, .int .i64 n1, .int .i64 n2, .int .i64 n3, .int .u64 n4, .int .u64 n5, .int .u64 n6, .int .u64 n7, .int .i64 0, .string ⟨#[]⟩, .int .i64 0, .int .i64 0, .int .u64 0]) := Lib.hid (G13.out.setCell 7 _)
      have M14 : Hid (Mods (· = x0.heap.size) ((x0.alloc (.cells #[.int .i64 0, .int .i64 0, .int .i64 0, .int .i64 0, .int .u64 0, .int .u64 0, .int .u64 0, .int .u64 0, .int .i64 0, .string ⟨#[]⟩, .int .i64 0, .int .i64 0, .int .u64 0] 35)).setRow x0.heap.size #[.int .i64 0, .int .i64 0, .int .i64 0, .int .i64 0, .int .u64 0, .int .u64 0, .int .u64 0, .int .u64 0, .int .i64 0, .string ⟨#[]⟩, .int .i64 0, .int .i64 0, .int .u64 0]) (x7.setCell ⟨x0.heap.size, 7, none⟩ (.int .u64 n7))) := Lib.hid (M13.out.setCell _ (.inl rfl) _)
      clear G13 M13
      have l8 : World.cell? (x7.setCell ⟨x0.heap.size, 7, none⟩ (.int .u64 n7)) ⟨b, off + 8, none⟩ = some (.string ⟨w8.toArray⟩) := (M14.out.cell (p := ⟨b, off + 8, none⟩) hlt2 (by simp only; omega)).trans (HR2.out 8 _ rfl)
      go_wp2_with (go_at_call 46; refine (C8.out _).mono ?_)
      first | rintro e x8 ⟨bb, n8, hin, rfl, hv⟩ | rintro e x8 bb n8 hin rfl hv
      have G15 := Lib.hid (G14.out.kept bb)
      have M15 := Lib.hid (M14.out.below bb)
      clear bb hv hin l8 G14 M14 C8
      have q8 := G15.out.cell 8 rfl
      have f8 := G15.out.free 8
      have G16 : Hid (Blk (x8.setCell ⟨x0.heap.size, 8, none⟩ (.int .i64 n8)) x0.heap.size 35 #[.int .i64 K, .int .i64 n1, .int .i64 n2, .int .i64 n3, .int .u64 n4, .int .u64 n5, .int .u64 n6, .int .u64 n7, .int .i64 n8, .string ⟨#[]⟩, .int .i64 0, .int .i64 0, .int .u64 0]) := Lib.hid (G15.out.setCell 8 _)
      have M16 : Hid (Mods (· = x0.heap.size) ((x0.alloc (.cells #[.int .i64 0, .int .i64 0, .int .i64 0, .int .i64 0, .int .u64 0, .int .u64 0, .int .u64 0, .int .u64 0, .int .i64 0, .string ⟨#[]⟩, .int .i64 0, .int .i64 0, .int .u64 0] 35)).setRow x0.heap.size #[.int .i64 0, .int .i64 0, .int .i64 0, .int .i64 0, .int .u64 0, .int .u64 0, .int .u64 0, .int .u64 0, .int .i64 0, .string ⟨#[]⟩, .int .i64 0, .int .i64 0, .int .u64 0]) (x8.setCell ⟨x0.heap.size, 8, none⟩ (.int .i64 n8))) := Lib.hid (M15.out.setCell _ (.inl rfl) _)
      clear G15 M15
      have l9 : World.cell? (x8.setCell ⟨x0.heap.size, 8, none⟩ (.int .i64 n8)) ⟨b, off + 9, none⟩ = some (.string ⟨w9.toArray⟩) := (M16.out.cell (p := ⟨b, off + 9, none⟩) hlt2 (by simp only; omega)).trans (HR2.out 9 _ rfl)
      go_wp2_with (go_at_call 48; refine (C9.out _).mono ?_)
      first | rintro e x9 ⟨bb, n9, rfl, hin, hv⟩ | rintro e x9 bb n9 rfl hin hv
      have G17 := Lib.hid (G16.out.kept bb)
      have M17 := Lib.hid (M16.out.below bb)
      clear bb hv hin l9 G16 M16 C9
      have q9 := G17.out.cell 9 rfl
      have f9 := G17.out.free 9
      have G18 : Hid (Blk (x9.setCell ⟨x0.heap.size, 9, none⟩ (.string ⟨n9.toArray⟩)) x0.heap.size 35 #[.int .i64 K, .int .i64 n1, .int .i64 n2, .int .i64 n3, .int .u64 n4, .int .u64 n5, .int .u64 n6, .int .u64 n7, .int .i64 n8, .string ⟨n9.toArray⟩, .int .i64 0, .int .i64 0, .int .u64 0]) := Lib.hid (G17.out.setCell 9 _)
      have M18 : Hid (Mods (· = x0.heap.size) ((x0.alloc (.cells #[.int .i64 0, .int .i64 0, .int .i64 0, .int .i64 0, .int .u64 0, .int .u64 0, .int .u64 0, .int .u64 0, .int .i64 0, .string ⟨#[]⟩, .int .i64 0, .int .i64 0, .int .u64 0] 35)).setRow x0.heap.size #[.int .i64 0, .int .i64 0, .int .i64 0, .int .i64 0, .int .u64 0, .int .u64 0, .int .u64 0, .int .u64 0, .int .i64 0, .string ⟨#[]⟩, .int .i64 0, .int .i64 0, .int .u64 0]) (x9.setCell ⟨x0.heap.size, 9, none⟩ (.string ⟨n9.toArray⟩))) := Lib.hid (M17.out.setCell _ (.inl rfl) _)
      clear G17 M17
      have l10 : World.cell? (x9.setCell ⟨x0.heap.size, 9, none⟩ (.string ⟨n9.toArray⟩)) ⟨b, off + 10, none⟩ = some (.string ⟨w10.toArray⟩) := (M18.out.cell (p := ⟨b, off + 10, none⟩) hlt2 (by simp only; omega)).trans (HR2.out 10 _ rfl)
      go_wp2_with (go_at_call 46; refine (C10.out _).mono ?_)
      first | rintro e x10 ⟨bb, n10, hin, rfl, hv⟩ | rintro e x10 bb n10 hin rfl hv
      have G19 := Lib.hid (G18.out.kept bb)
      have M19 := Lib.hid (M18.out.below bb)
      clear bb hv hin l10 G18 M18 C10
      have q10 := G19.out.cell 10 rfl
      have f10 := G19.out.free 10
      have G20 : Hid (Blk (x10.setCell ⟨x0.heap.size, 10, none⟩ (.int .i64 n10)) x0.heap.size 35 #[.int .i64 K, .int .i64 n1, .int .i64 n2, .int .i64 n3, .int .u64 n4, .int .u64 n5, .int .u64 n6, .int .u64 n7, .int .i64 n8, .string ⟨n9.toArray⟩, .int .i64 n10, .int .i64 0, .int .u64 0]) := Lib.hid (G19.out.setCell 10 _)
      have M20 : Hid (Mods (· = x0.heap.size) ((x0.alloc (.cells #[.int .i64 0, .int .i64 0, .int .i64 0, .int .i64 0, .int .u64 0, .int .u64 0, .int .u64 0, .int .u64 0, .int .i64 0, .string ⟨#[]⟩, .int .i64 0, .int .i64 0, .int .u64 0] 35)).setRow x0.heap.size #[.int .i64 0, .int .i64 0, .int .i64 0, .int .i64 0, .int .u64 0, .int .u64 0, .int .u64 0, .int .u64 0, .int .i64 0, .string ⟨#[]⟩, .int .i64 0, .int .i64 0, .int .u64 0]) (x10.setCell ⟨x0.heap.size, 10, none⟩ (.int .i64 n10))) := Lib.hid (M19.out.setCell _ (.inl rfl) _)
      clear G19 M19
      have l11 : World.cell? (x10.setCell ⟨x0.heap.size, 10, none⟩ (.int .i64 n10)) ⟨b, off + 11, none⟩ = some (.string ⟨w11.toArray⟩) := (M20.out.cell (p := ⟨b, off + 11, none⟩) hlt2 (by simp only; omega)).trans (HR2.out 11 _ rfl)
      go_wp2_with (go_at_call 46; refine (C11.out _).mono ?_)
      first | rintro e x11 ⟨bb, n11, hin, rfl, hv⟩ | rintro e x11 bb n11 hin rfl hv
      have G21 := Lib.hid (G20.out.kept bb)
      have M21 := Lib.hid (M20.out.below bb)
      clear bb hv hin l11 G20 M20 C11
      have q11 := G21.out.cell 11 rfl
      have f11 := G21.out.free 11
      have G22 : Hid (Blk (x11.setCell ⟨x0.heap.size, 11, none⟩ (.int .i64 n11)) x0.heap.size 35 #[.int .i64 K, .int .i64 n1, .int .i64 n2, .int .i64 n3, .int .u64 n4, .int .u64 n5, .int .u64 n6, .int .u64 n7, .int .i64 n8, .string ⟨n9.toArray⟩, .int .i64 n10, .int .i64 n11, .int .u64 0]) := Lib.hid (G21.out.setCell 11 _)
      have M22 : Hid (Mods (· = x0.heap.size) ((x0.alloc (.cells #[.int .i64 0, .int .i64 0, .int .i64 0, .int .i64 0, .int .u64 0, .int .u64 0, .int .u64 0, .int .u64 0, .int .i64 0, .string ⟨#[]⟩, .int .i64 0, .int .i64 0, .int .u64 0] 35)).setRow x0.heap.size #[.int .i64 0, .int .i64 0, .int .i64 0, .int .i64 0, .int .u64 0, .int .u64 0, .int .u64 0, .int .u64 0, .int .i64 0, .string ⟨#[]⟩, .int .i64 0, .int .i64 0, .int .u64 0]) (x11.setCell ⟨x0.heap.size, 11, none⟩ (.int .i64 n11))) := Lib.hid (M21.out.setCell _ (.inl rfl) _)
      clear G21 M21
      have l12 : World.cell? (x11.setCell ⟨x0.heap.size, 11, none⟩ (.int .i64 n11)) ⟨b, off + 12, none⟩ = some (.string ⟨w12.toArray⟩) := (M22.out.cell (p := ⟨b, off + 12, none⟩) hlt2 (by simp only; omega)).trans (HR2.out 12 _ rfl)
      go_wp2_with (go_at_call 47; refine (C12.out _).mono ?_)
      first | rintro e x12 ⟨bb, n12, hin, rfl, hv⟩ | rintro e x12 bb n12 hin rfl hv
      have G23 := Lib.hid (G22.out.kept bb)
      have M23 := Lib.hid (M22.out.below bb)
      clear bb hv hin l12 G22 M22 C12
      have q12 := G23.out.cell 12 rfl
      have f12 := G23.out.free 12
      have G24 : Hid (Blk (x12.setCell ⟨x0.heap.size, 12, none⟩ (.int .u64 n12)) x0.heap.size 35 #[.int .i64 K, .int .i64 n1, .int .i64 n2, .int .i64 n3, .int .u64 n4, .int .u64 n5, .int .u64 n6, .int .u64 n7, .int .i64 n8, .string ⟨n9.toArray⟩, .int .i64 n10, .int .i64 n11, .int .u64 n12]) := Lib.hid (G23.out.setCell 12 _)
      have M24 : Hid (Mods (· = x0.heap.size) ((x0.alloc (.cells #[.int .i64 0, .int .i64 0, .int .i64 0, .int .i64 0, .int .u64 0, .int .u64 0, .int .u64 0, .int .u64 0, .int .i64 0, .string ⟨#[]⟩, .int .i64 0, .int .i64 0, .int .u64 0] 35)).setRow x0.heap.size #[.int .i64 0, .int .i64 0, .int .i64 0, .int .i64 0, .int .u64 0, .int .u64 0, .int .u64 0, .int .u64 0, .int .i64 0, .string ⟨#[]⟩, .int .i64 0, .int .i64 0, .int .u64 0]) (x12.setCell ⟨x0.heap.size, 12, none⟩ (.int .u64 n12))) := Lib.hid (M23.out.setCell _ (.inl rfl) _)
      clear G23 M23
      have hX := HX2.out.mods M24.out (by omega)
      have hBl := Mods.old HA2.out M24.out HA2.out.size (fun i _ h => by have h : i = x0.heap.size := h; omega)
      obtain ⟨hb3, hx3⟩ := set_in #[.int .i64 0, .int .i64 0, .int .i64 0, .int .i64 0, .int .u64 0, .int .u64 0, .int .u64 0, .int .u64 0, .int .i64 0, .string ⟨#[]⟩, .int .i64 0, .int .i64 0, .int .u64 0] hBl hX (Nat.le_refl _)
      have HB3 := Lib.hid hb3
      have HX3 := Lib.hid hx3
      have HX := Lib.hid hX
      clear hX hBl hb3 hx3
      go_wp2_with (refine wpList_store_row rfl 35 (.tmp 2) (.tmp 190) rfl w.heap.size #[.int .i64 0, .int .i64 0, .int .i64 0, .int .i64 0, .int .u64 0, .int .u64 0, .int .u64 0, .int .u64 0, .int .i64 0, .string ⟨#[]⟩, .int .i64 0, .int .i64 0, .int .u64 0] rfl rfl _ _ HX.out act_size rfl (by simp [Value.oneCell']) ?_)
      have y0 := HX3.out.cell 0 rfl; have y1 := HX3.out.cell 1 rfl; have y2 := HX3.out.cell 2 rfl; have y3 := HX3.out.cell 3 rfl; have y4 := HX3.out.cell 4 rfl; have y5 := HX3.out.cell 5 rfl; have y6 := HX3.out.cell 6 rfl; have y7 := HX3.out.cell 7 rfl; have y8 := HX3.out.cell 8 rfl; have y9 := HX3.out.cell 9 rfl; have y10 := HX3.out.cell 10 rfl; have y11 := HX3.out.cell 11 rfl; have y12 := HX3.out.cell 12 rfl
      refine bodyPost_ret (v := .tuple #[.agg #[.int .i64 0, .int .i64 0, .int .i64 0, .int .i64 0, .int .u64 0, .int .u64 0, .int .u64 0, .int .u64 0, .int .i64 0, .string ⟨#[]⟩, .int .i64 0, .int .i64 0, .int .u64 0], .bool false]) (by simp [results, Tryd.results15, go_sem, y0, y1, y2, y3, y4, y5, y6, y7, y8, y9, y10, y11, y12]) rfl ?_
      exact refToActE_no HRES.out HB3.out

set_option maxRecDepth 20000 in
set_option maxHeartbeats 8000000 in
theorem refToAct_11 (s : List UInt8) (hs : s.length ≤ 4294967280) {w0 w1 w2 w3 w4 w5 w6 w7 w8 w9 w10 w11 w12 : List UInt8} (hp : parts 32 s = [w0, w1, w2, w3, w4, w5, w6, w7, w8, w9, w10, w11, w12]) (e0 : (kindOf w0).isSome = true) (e1 : (pint w1).isSome = true) (e2 : (pint w2).isSome = true) (e3 : (pint w3).isSome = true) (e4 : (pnum w4).isSome = true) (e5 : (pnum w5).isSome = true) (e6 : (pnum w6).isSome = true) (e7 : (pnum w7).isSome = true) (e8 : (pint w8).isSome = true) (e9 : (pkey w9).isSome = true) (e10 : (pint w10).isSome = true) (e11 : (pint w11).isSome = false) (w : World) : Calls Tryd.prog 15 #[.string ⟨s.toArray⟩] w (RefToActE s w) := by
  have HRES : Hid (readAct s = none) := Lib.hid (by
    cases h : readAct s with
    | none => rfl
    | some a =>
      obtain ⟨q0, q1, q2, q3, q4, q5, q6, q7, q8, q9, q10, q11, q12, qo⟩ := readAct_parts hp h
      rw [q11] at e11; cases e11)
  have hlen : ∀ x ∈ parts 32 s, x.length ≤ 140737488351232 := fun x hx => by have := parts_len 32 s x hx; omega
  have HP := Lib.hid hp
  rw [hp] at hlen
  have CW := Lib.hid (refWords s hs)
  clear HP
  unfold WordsE at CW
  simp only [hp] at CW
  have C1 := Lib.hid (refInt w1 (hlen _ (by simp)))
  unfold IntE at C1
  simp only [e1] at C1
  have C2 := Lib.hid (refInt w2 (hlen _ (by simp)))
  unfold IntE at C2
  simp only [e2] at C2
  have C3 := Lib.hid (refInt w3 (hlen _ (by simp)))
  unfold IntE at C3
  simp only [e3] at C3
  have C4 := Lib.hid (refNum w4 (hlen _ (by simp)))
  unfold NumE at C4
  simp only [e4] at C4
  have C5 := Lib.hid (refNum w5 (hlen _ (by simp)))
  unfold NumE at C5
  simp only [e5] at C5
  have C6 := Lib.hid (refNum w6 (hlen _ (by simp)))
  unfold NumE at C6
  simp only [e6] at C6
  have C7 := Lib.hid (refNum w7 (hlen _ (by simp)))
  unfold NumE at C7
  simp only [e7] at C7
  have C8 := Lib.hid (refInt w8 (hlen _ (by simp)))
  unfold IntE at C8
  simp only [e8] at C8
  have C9 := Lib.hid (refKey w9 (hlen _ (by simp)))
  unfold KeyE at C9
  simp only [e9] at C9
  have C10 := Lib.hid (refInt w10 (hlen _ (by simp)))
  unfold IntE at C10
  simp only [e10] at C10
  have C11 := Lib.hid (refInt w11 (hlen _ (by simp)))
  unfold IntE at C11
  simp only [e11] at C11
  have C12 := Lib.hid (refNum w12 (hlen _ (by simp)))
  unfold NumE at C12
  generalize (pnum w12).isSome = b12 at C12
  have HE0 := Lib.hid e0
  clear hp hlen e0 e1 e2 e3 e4 e5 e6 e7 e8 e9 e10 e11 
  have hb0 : Below w.heap.size w (w.alloc (.cells #[.int .i64 0, .int .i64 0, .int .i64 0, .int .i64 0, .int .u64 0, .int .u64 0, .int .u64 0, .int .u64 0, .int .i64 0, .string ⟨#[]⟩, .int .i64 0, .int .i64 0, .int .u64 0] 35)) := (Below.refl _ _).alloc (Nat.le_refl _) _
  have HA0 := Lib.hid hb0
  have HX0 := Lib.hid (Blk.new w #[.int .i64 0, .int .i64 0, .int .i64 0, .int .i64 0, .int .u64 0, .int .u64 0, .int .u64 0, .int .u64 0, .int .i64 0, .string ⟨#[]⟩, .int .i64 0, .int .i64 0, .int .u64 0] 35)
  clear hb0
  go_enter Tryd.func15, Tryd.ntmps15
  go_wp2_with (go_at_call 45; refine (CW.out _).mono ?_)
  first | rintro e x0 ⟨hb, A, c, rfl, hr⟩ | rintro e x0 hb A c rfl hr
  obtain ⟨b, off, rfl, hlt, hc⟩ := hr.at_ (by simp [svals])
  have HA1 := Lib.hid (HA0.out.trans (hb.mono HA0.out.size))
  have HX1 := Lib.hid (HX0.out.kept hb)
  have hlt0 := HX1.out.lt
  have HN := Lib.hid (Blk.new x0 #[.int .i64 0, .int .i64 0, .int .i64 0, .int .i64 0, .int .u64 0, .int .u64 0, .int .u64 0, .int .u64 0, .int .i64 0, .string ⟨#[]⟩, .int .i64 0, .int .i64 0, .int .u64 0] 35)
  obtain ⟨hb2, hx2⟩ := row_in w x0 #[.int .i64 0, .int .i64 0, .int .i64 0, .int .i64 0, .int .u64 0, .int .u64 0, .int .u64 0, .int .u64 0, .int .i64 0, .string ⟨#[]⟩, .int .i64 0, .int .i64 0, .int .u64 0] #[.int .i64 0, .int .i64 0, .int .i64 0, .int .i64 0, .int .u64 0, .int .u64 0, .int .u64 0, .int .u64 0, .int .i64 0, .string ⟨#[]⟩, .int .i64 0, .int .i64 0, .int .u64 0] 35 HA1.out
  have HA2 := Lib.hid hb2
  have HG2 := Lib.hid hx2
  have HX2 : Hid (Blk ((x0.alloc (.cells #[.int .i64 0, .int .i64 0, .int .i64 0, .int .i64 0, .int .u64 0, .int .u64 0, .int .u64 0, .int .u64 0, .int .i64 0, .string ⟨#[]⟩, .int .i64 0, .int .i64 0, .int .u64 0] 35)).setRow x0.heap.size #[.int .i64 0, .int .i64 0, .int .i64 0, .int .i64 0, .int .u64 0, .int .u64 0, .int .u64 0, .int .u64 0, .int .i64 0, .string ⟨#[]⟩, .int .i64 0, .int .i64 0, .int .u64 0]) w.heap.size 35 #[.int .i64 0, .int .i64 0, .int .i64 0, .int .i64 0, .int .u64 0, .int .u64 0, .int .u64 0, .int .u64 0, .int .i64 0, .string ⟨#[]⟩, .int .i64 0, .int .i64 0, .int .u64 0]) := Lib.hid ((HX1.out.kept ((Below.refl _ _).alloc (Nat.le_refl _) _)).setRow_other (k := x0.heap.size) #[.int .i64 0, .int .i64 0, .int .i64 0, .int .i64 0, .int .u64 0, .int .u64 0, .int .u64 0, .int .u64 0, .int .i64 0, .string ⟨#[]⟩, .int .i64 0, .int .i64 0, .int .u64 0] (by omega))
  have HR2 : Hid (∀ j v, (svals [w0, w1, w2, w3, w4, w5, w6, w7, w8, w9, w10, w11, w12])[j]? = some v → World.cell? ((x0.alloc (.cells #[.int .i64 0, .int .i64 0, .int .i64 0, .int .i64 0, .int .u64 0, .int .u64 0, .int .u64 0, .int .u64 0, .int .i64 0, .string ⟨#[]⟩, .int .i64 0, .int .i64 0, .int .u64 0] 35)).setRow x0.heap.size #[.int .i64 0, .int .i64 0, .int .i64 0, .int .i64 0, .int .u64 0, .int .u64 0, .int .u64 0, .int .u64 0, .int .i64 0, .string ⟨#[]⟩, .int .i64 0, .int .i64 0, .int .u64 0]) ⟨b, off + j, none⟩ = some v) := Lib.hid fun j v hv => by
    rw [cell_setRow_other _ _ _ _ (by simp only; omega), ((Below.refl x0.heap.size x0).alloc (Nat.le_refl _) _).cell (p := ⟨b, off + j, none⟩) hlt]
    exact hc j v hv
  have hlt2 : b < (((x0.alloc (.cells #[.int .i64 0, .int .i64 0, .int .i64 0, .int .i64 0, .int .u64 0, .int .u64 0, .int .u64 0, .int .u64 0, .int .i64 0, .string ⟨#[]⟩, .int .i64 0, .int .i64 0, .int .u64 0] 35)).setRow x0.heap.size #[.int .i64 0, .int .i64 0, .int .i64 0, .int .i64 0, .int .u64 0, .int .u64 0, .int .u64 0, .int .u64 0, .int .i64 0, .string ⟨#[]⟩, .int .i64 0, .int .i64 0, .int .u64 0])).heap.size := by simp; omega
  clear hb hr hc hb2 hx2 HA0 HA1 HX0 HX1 CW
  go_wp2_with (refine wpList_store_row rfl 35 (.tmp 5) (.tmp 14) rfl x0.heap.size #[.int .i64 0, .int .i64 0, .int .i64 0, .int .i64 0, .int .u64 0, .int .u64 0, .int .u64 0, .int .u64 0, .int .i64 0, .string ⟨#[]⟩, .int .i64 0, .int .i64 0, .int .u64 0] rfl rfl _ _ HN.out act_size rfl (by simp [Value.oneCell']) ?_)
  go_loopw [6] (fun i wr => ∃ (k : Nat) (K : Int), 1 ≤ k ∧ k ≤ 19 ∧ i = .int .i64 (k : Int) ∧ 0 ≤ K ∧ K ≤ 18 ∧ Hid (KdInv w0 k K) ∧ Hid (Blk wr x0.heap.size 35 #[.int .i64 K, .int .i64 0, .int .i64 0, .int .i64 0, .int .u64 0, .int .u64 0, .int .u64 0, .int .u64 0, .int .i64 0, .string ⟨#[]⟩, .int .i64 0, .int .i64 0, .int .u64 0]) ∧ Hid (Mods (· = x0.heap.size) ((x0.alloc (.cells #[.int .i64 0, .int .i64 0, .int .i64 0, .int .i64 0, .int .u64 0, .int .u64 0, .int .u64 0, .int .u64 0, .int .i64 0, .string ⟨#[]⟩, .int .i64 0, .int .i64 0, .int .u64 0] 35)).setRow x0.heap.size #[.int .i64 0, .int .i64 0, .int .i64 0, .int .i64 0, .int .u64 0, .int .u64 0, .int .u64 0, .int .u64 0, .int .i64 0, .string ⟨#[]⟩, .int .i64 0, .int .i64 0, .int .u64 0]) wr)) (fun i _ => 19 - (intOf i).toNat)
  case atStart => exact ⟨1, 0, by omega, by omega, rfl, by omega, by omega, Lib.hid (KdInv.start _), HG2, Lib.hid (Mods.refl _ _)⟩
  case round =>
    obtain ⟨k, K, hk1, hk2, rfl, hK1, hK2, HI, HG, HM⟩ := hrel
    by_cases hk : k ≤ 18
    · have hgl := HG.out.lt
      have WC := Lib.hid (refWord (k : Int) (by omega) (by omega))
      have HW : Hid (wordOf (k : Int) = kindWord k) := Lib.hid (by unfold wordOf; rw [if_pos ⟨by omega, by omega⟩]; rfl)
      rw [HW.out] at WC
      have HHIT := Lib.hid (fun h => KdInv.hit (s := w0) (k := k) h hk1)
      have HMISS := Lib.hid (fun h => HI.out.miss h)
      have h0 : World.cell? wr ⟨b, off, none⟩ = some (.string ⟨w0.toArray⟩) := (HM.out.cell (p := ⟨b, off, none⟩) hlt2 (by simp only; omega)).trans (HR2.out 0 _ rfl)
      have hbl : b < wr.heap.size := Nat.lt_of_lt_of_le hlt2 HM.out.size
      generalize kindWord k = kw at *
      clear HI HW
      go_wp2_with fail
      refine wp_region_plan_gen (by kernel_rfl) [(0, true), (2, true), (3, true), (4, true), (1, false), (5, true)] (by kernel_rfl) (by kernel_rfl) (by decide) ?_
      intro y0 hy0
      have B0 : Hid (Below wr.heap.size wr y0) := Lib.hid (by rw [hy0]; exact (Below.refl _ _).drew)
      have ld0 : ∀ w', Ext y0 w' → w'.cell? ⟨b, off, none⟩ = some (.string ⟨w0.toArray⟩) := fun w' hw => (hw.cell (by rw [hy0]; simpa using hbl)).trans (by rw [hy0]; simpa using h0)
      clear hy0
      iterate 4 (refine plan_pure (v := ?_) rfl (by rfl) (fun w' hw' => ?_) ?_; rotate_left; (focus (simp only [List.getElem_toArray, List.getElem_cons_succ, List.getElem_cons_zero]; go_simp; try with_reducible rfl)); try simp only [List.getElem_toArray, List.getElem_cons_succ, List.getElem_cons_zero, Act.put, List.setIfInBounds_toArray, List.set_cons_zero, List.set_cons_succ])
      refine plan_call rfl (by rfl) (fun Q hQ => ?_)
      go_simp
      refine (WC.out y0).mono ?_
      rintro e y1 ⟨rfl, hby⟩
      refine hQ _ _ hby ?_
      clear hQ Q
      have B1 := Lib.hid (B0.out.trans (hby.mono B0.out.size))
      have HG1 := Lib.hid (HG.out.kept B1.out)
      have HM1 := Lib.hid (HM.out.below B1.out)
      clear hby
      try simp only [List.getElem_toArray, List.getElem_cons_succ, List.getElem_cons_zero, Act.put, List.setIfInBounds_toArray, List.set_cons_zero, List.set_cons_succ]
      iterate 1 (refine plan_pure (v := ?_) rfl (by rfl) (fun w' hw' => ?_) ?_; rotate_left; (focus (simp only [List.getElem_toArray, List.getElem_cons_succ, List.getElem_cons_zero]; go_simp; try with_reducible rfl)); try simp only [List.getElem_toArray, List.getElem_cons_succ, List.getElem_cons_zero, Act.put, List.setIfInBounds_toArray, List.set_cons_zero, List.set_cons_succ])
      refine plan_end ?_
      by_cases hkw : kw = w0
      · have HH := Lib.hid (HHIT.out hkw)
        rw [show (kw == w0) = true from beq_iff_eq.2 hkw]
        have q0 := HG1.out.cell 0 rfl
        have qf := HG1.out.free 0
        have HG2 : Hid (Blk (y1.setCell ⟨x0.heap.size, 0, none⟩ (.int .i64 (k : Int))) x0.heap.size 35 #[.int .i64 (k : Int), .int .i64 0, .int .i64 0, .int .i64 0, .int .u64 0, .int .u64 0, .int .u64 0, .int .u64 0, .int .i64 0, .string ⟨#[]⟩, .int .i64 0, .int .i64 0, .int .u64 0]) := Lib.hid (HG1.out.setCell 0 _)
        have HM2 := Lib.hid (HM1.out.setCell ⟨x0.heap.size, 0, none⟩ (.inl rfl) (.int .i64 (k : Int)))
        clear HHIT HMISS hkw ld0
        go_wp2_with fail
        go_roundw
        case rel => exact ⟨k + 1, (k : Int), by omega, by omega, by go_num, by omega, by omega, HH, HG2, HM2⟩
        case measure => simp [intOf]; omega
      · have HH := Lib.hid (HMISS.out hkw)
        rw [show (kw == w0) = false from beq_eq_false_iff_ne.2 hkw]
        clear HHIT HMISS hkw ld0
        go_wp2_with fail
        go_roundw
        case rel => exact ⟨k + 1, K, by omega, by omega, by go_num, by omega, by omega, HH, HG1, HM1⟩
        case measure => simp [intOf]; omega
    · obtain rfl : k = 19 := by omega
      have hf := HI.out.fin hK2
      have he0 := HE0.out
      have hK3 : 0 < K := by
        rcases hf with ⟨h, _⟩ | ⟨_, h⟩
        · rw [h] at he0; cases he0
        · exact h
      clear HI hf he0 hk1 hk2 hk HE0
      have l1 : World.cell? wr ⟨b, off + 1, none⟩ = some (.string ⟨w1.toArray⟩) := (HM.out.cell (p := ⟨b, off + 1, none⟩) hlt2 (by simp only; omega)).trans (HR2.out 1 _ rfl)
      go_wp2_with (go_at_call 46; refine (C1.out _).mono ?_)
      first | rintro e x1 ⟨bb, n1, hin, rfl, hv⟩ | rintro e x1 bb n1 hin rfl hv
      have G1 := Lib.hid (HG.out.kept bb)
      have M1 := Lib.hid (HM.out.below bb)
      clear bb hv hin l1 HG HM C1
      have l2 : World.cell? x1 ⟨b, off + 2, none⟩ = some (.string ⟨w2.toArray⟩) := (M1.out.cell (p := ⟨b, off + 2, none⟩) hlt2 (by simp only; omega)).trans (HR2.out 2 _ rfl)
      go_wp2_with (go_at_call 46; refine (C2.out _).mono ?_)
      first | rintro e x2 ⟨bb, n2, hin, rfl, hv⟩ | rintro e x2 bb n2 hin rfl hv
      have G2 := Lib.hid (G1.out.kept bb)
      have M2 := Lib.hid (M1.out.below bb)
      clear bb hv hin l2 G1 M1 C2
      have q1 := G2.out.cell 1 rfl
      have f1 := G2.out.free 1
      have G3 : Hid (Blk (x2.setCell ⟨x0.heap.size, 1, none⟩ (.int .i64 n1)) x0.heap.size 35 #[.int .i64 K, .int .i64 n1, .int .i64 0, .int .i64 0, .int .u64 0, .int .u64 0, .int .u64 0, .int .u64 0, .int .i64 0, .string ⟨#[]⟩, .int .i64 0, .int .i64 0, .int .u64 0]) := Lib.hid (G2.out.setCell 1 _)
      have M3 : Hid (Mods (· = x0.heap.size) ((x0.alloc (.cells #[.int .i64 0, .int .i64 0, .int .i64 0, .int .i64 0, .int .u64 0, .int .u64 0, .int .u64 0, .int .u64 0, .int .i64 0, .string ⟨#[]⟩, .int .i64 0, .int .i64 0, .int .u64 0] 35)).setRow x0.heap.size #[.int .i64 0, .int .i64 0, .int .i64 0, .int .i64 0, .int .u64 0, .int .u64 0, .int .u64 0, .int .u64 0, .int .i64 0, .string ⟨#[]⟩, .int .i64 0, .int .i64 0, .int .u64 0]) (x2.setCell ⟨x0.heap.size, 1, none⟩ (.int .i64 n1))) := Lib.hid (M2.out.setCell _ (.inl rfl) _)
      clear G2 M2
      have q2 := G3.out.cell 2 rfl
      have f2 := G3.out.free 2
      have G4 : Hid (Blk ((x2.setCell ⟨x0.heap.size, 1, none⟩ (.int .i64 n1)).setCell ⟨x0.heap.size, 2, none⟩ (.int .i64 n2)) x0.heap.size 35 #[.int .i64 K, .int .i64 n1, .int .i64 n2, .int .i64 0, .int .u64 0, .int .u64 0, .int .u64 0, .int .u64 0, .int .i64 0, .string ⟨#[]⟩, .int .i64 0, .int .i64 0, .int .u64 0]) := Lib.hid (G3.out.setCell 2 _)
      have M4 : Hid (Mods (· = x0.heap.size) ((x0.alloc (.cells #[.int .i64 0, .int .i64 0, .int .i64 0, .int .i64 0, .int .u64 0, .int .u64 0, .int .u64 0, .int .u64 0, .int .i64 0, .string ⟨#[]⟩, .int .i64 0, .int .i64 0, .int .u64 0] 35)).setRow x0.heap.size #[.int .i64 0, .int .i64 0, .int .i64 0, .int .i64 0, .int .u64 0, .int .u64 0, .int .u64 0, .int .u64 0, .int .i64 0, .string ⟨#[]⟩, .int .i64 0, .int .i64 0, .int .u64 0]) ((x2.setCell ⟨x0.heap.size, 1, none⟩ (.int .i64 n1)).setCell ⟨x0.heap.size, 2, none⟩ (.int .i64 n2))) := Lib.hid (M3.out.setCell _ (.inl rfl) _)
      clear G3 M3
      have l3 : World.cell? ((x2.setCell ⟨x0.heap.size, 1, none⟩ (.int .i64 n1)).setCell ⟨x0.heap.size, 2, none⟩ (.int .i64 n2)) ⟨b, off + 3, none⟩ = some (.string ⟨w3.toArray⟩) := (M4.out.cell (p := ⟨b, off + 3, none⟩) hlt2 (by simp only; omega)).trans (HR2.out 3 _ rfl)
      have lk := G4.out.cell 0 rfl
      go_wp2_with (go_at_call 46; refine (C3.out _).mono ?_)
      first | rintro e x3 ⟨bb, n3, hin, rfl, hv⟩ | rintro e x3 bb n3 hin rfl hv
      have G5 := Lib.hid (G4.out.kept bb)
      have M5 := Lib.hid (M4.out.below bb)
      clear bb hv hin l3 G4 M4 lk C3
      have q3 := G5.out.cell 3 rfl
      have f3 := G5.out.free 3
      have G6 : Hid (Blk (x3.setCell ⟨x0.heap.size, 3, none⟩ (.int .i64 n3)) x0.heap.size 35 #[.int .i64 K, .int .i64 n1, .int .i64 n2, .int .i64 n3, .int .u64 0, .int .u64 0, .int .u64 0, .int .u64 0, .int .i64 0, .string ⟨#[]⟩, .int .i64 0, .int .i64 0, .int .u64 0]) := Lib.hid (G5.out.setCell 3 _)
      have M6 : Hid (Mods (· = x0.heap.size) ((x0.alloc (.cells #[.int .i64 0, .int .i64 0, .int .i64 0, .int .i64 0, .int .u64 0, .int .u64 0, .int .u64 0, .int .u64 0, .int .i64 0, .string ⟨#[]⟩, .int .i64 0, .int .i64 0, .int .u64 0] 35)).setRow x0.heap.size #[.int .i64 0, .int .i64 0, .int .i64 0, .int .i64 0, .int .u64 0, .int .u64 0, .int .u64 0, .int .u64 0, .int .i64 0, .string ⟨#[]⟩, .int .i64 0, .int .i64 0, .int .u64 0]) (x3.setCell ⟨x0.heap.size, 3, none⟩ (.int .i64 n3))) := Lib.hid (M5.out.setCell _ (.inl rfl) _)
      clear G5 M5
      have l4 : World.cell? (x3.setCell ⟨x0.heap.size, 3, none⟩ (.int .i64 n3)) ⟨b, off + 4, none⟩ = some (.string ⟨w4.toArray⟩) := (M6.out.cell (p := ⟨b, off + 4, none⟩) hlt2 (by simp only; omega)).trans (HR2.out 4 _ rfl)
      go_wp2_with (go_at_call 47; refine (C4.out _).mono ?_)
      first | rintro e x4 ⟨bb, n4, hin, rfl, hv⟩ | rintro e x4 bb n4 hin rfl hv
      have G7 := Lib.hid (G6.out.kept bb)
      have M7 := Lib.hid (M6.out.below bb)
      clear bb hv hin l4 G6 M6 C4
      have q4 := G7.out.cell 4 rfl
      have f4 := G7.out.free 4
      have G8 : Hid (Blk (x4.setCell ⟨x0.heap.size, 4, none⟩ (.int .u64 n4)) x0.heap.size 35 #[.int .i64 K, .int .i64 n1, .int .i64 n2, .int .i64 n3, .int .u64 n4, .int .u64 0, .int .u64 0, .int .u64 0, .int .i64 0, .string ⟨#[]⟩, .int .i64 0, .int .i64 0, .int .u64 0]) := Lib.hid (G7.out.setCell 4 _)
      have M8 : Hid (Mods (· = x0.heap.size) ((x0.alloc (.cells #[.int .i64 0, .int .i64 0, .int .i64 0, .int .i64 0, .int .u64 0, .int .u64 0, .int .u64 0, .int .u64 0, .int .i64 0, .string ⟨#[]⟩, .int .i64 0, .int .i64 0, .int .u64 0] 35)).setRow x0.heap.size #[.int .i64 0, .int .i64 0, .int .i64 0, .int .i64 0, .int .u64 0, .int .u64 0, .int .u64 0, .int .u64 0, .int .i64 0, .string ⟨#[]⟩, .int .i64 0, .int .i64 0, .int .u64 0]) (x4.setCell ⟨x0.heap.size, 4, none⟩ (.int .u64 n4))) := Lib.hid (M7.out.setCell _ (.inl rfl) _)
      clear G7 M7
      have l5 : World.cell? (x4.setCell ⟨x0.heap.size, 4, none⟩ (.int .u64 n4)) ⟨b, off + 5, none⟩ = some (.string ⟨w5.toArray⟩) := (M8.out.cell (p := ⟨b, off + 5, none⟩) hlt2 (by simp only; omega)).trans (HR2.out 5 _ rfl)
      go_wp2_with (go_at_call 47; refine (C5.out _).mono ?_)
      first | rintro e x5 ⟨bb, n5, hin, rfl, hv⟩ | rintro e x5 bb n5 hin rfl hv
      have G9 := Lib.hid (G8.out.kept bb)
      have M9 := Lib.hid (M8.out.below bb)
      clear bb hv hin l5 G8 M8 C5
      have q5 := G9.out.cell 5 rfl
      have f5 := G9.out.free 5
      have G10 : Hid (Blk (x5.setCell ⟨x0.heap.size, 5, none⟩ (.int .u64 n5)) x0.heap.size 35 #[.int .i64 K, .int .i64 n1, .int .i64 n2, .int .i64 n3, .int .u64 n4, .int .u64 n5, .int .u64 0, .int .u64 0, .int .i64 0, .string ⟨#[]⟩, .int .i64 0, .int .i64 0, .int .u64 0]) := Lib.hid (G9.out.setCell 5 _)
      have M10 : Hid (Mods (· = x0.heap.size) ((x0.alloc (.cells #[.int .i64 0, .int .i64 0, .int .i64 0, .int .i64 0, .int .u64 0, .int .u64 0, .int .u64 0, .int .u64 0, .int .i64 0, .string ⟨#[]⟩, .int .i64 0, .int .i64 0, .int .u64 0] 35)).setRow x0.heap.size #[.int .i64 0, .int .i64 0, .int .i64 0, .int .i64 0, .int .u64 0, .int .u64 0, .int .u64 0, .int .u64 0, .int .i64 0, .string ⟨#[]⟩, .int .i64 0, .int .i64 0, .int .u64 0]) (x5.setCell ⟨x0.heap.size, 5, none⟩ (.int .u64 n5))) := Lib.hid (M9.out.setCell _ (.inl rfl) _)
      clear G9 M9
      have l6 : World.cell? (x5.setCell ⟨x0.heap.size, 5, none⟩ (.int .u64 n5)) ⟨b, off + 6, none⟩ = some (.string ⟨w6.toArray⟩) := (M10.out.cell (p := ⟨b, off + 6, none⟩) hlt2 (by simp only; omega)).trans (HR2.out 6 _ rfl)
      go_wp2_with (go_at_call 47; refine (C6.out _).mono ?_)
      first | rintro e x6 ⟨bb, n6, hin, rfl, hv⟩ | rintro e x6 bb n6 hin rfl hv
      have G11 := Lib.hid (G10.out.kept bb)
      have M11 := Lib.hid (M10.out.below bb)
      clear bb hv hin l6 G10 M10 C6
      have q6 := G11.out.cell 6 rfl
      have f6 := G11.out.free 6
      have G12 : Hid (Blk (x6.setCell ⟨x0.heap.size, 6, none⟩ (.int .u64 n6)) x0.heap.size 35 #[.int .i64 K, .int .i64 n1, .int .i64 n2, .int .i64 n3, .int .u64 n4, .int .u64 n5, .int .u64 n6, .int .u64 0, .int .i64 0, .string ⟨#[]⟩, .int .i64 0, .int .i64 0, .int .u64 0]) := Lib.hid (G11.out.setCell 6 _)
      have M12 : Hid (Mods (· = x0.heap.size) ((x0.alloc (.cells #[.int .i64 0, .int .i64 0, .int .i64 0, .int .i64 0, .int .u64 0, .int .u64 0, .int .u64 0, .int .u64 0, .int .i64 0, .string ⟨#[]⟩, .int .i64 0, .int .i64 0, .int .u64 0] 35)).setRow x0.heap.size #[.int .i64 0, .int .i64 0, .int .i64 0, .int .i64 0, .int .u64 0, .int .u64 0, .int .u64 0, .int .u64 0, .int .i64 0, .string ⟨#[]⟩, .int .i64 0, .int .i64 0, .int .u64 0]) (x6.setCell ⟨x0.heap.size, 6, none⟩ (.int .u64 n6))) := Lib.hid (M11.out.setCell _ (.inl rfl) _)
      clear G11 M11
      have l7 : World.cell? (x6.setCell ⟨x0.heap.size, 6, none⟩ (.int .u64 n6)) ⟨b, off + 7, none⟩ = some (.string ⟨w7.toArray⟩) := (M12.out.cell (p := ⟨b, off + 7, none⟩) hlt2 (by simp only; omega)).trans (HR2.out 7 _ rfl)
      go_wp2_with (go_at_call 47; refine (C7.out _).mono ?_)
      first | rintro e x7 ⟨bb, n7, hin, rfl, hv⟩ | rintro e x7 bb n7 hin rfl hv
      have G13 := Lib.hid (G12.out.kept bb)
      have M13 := Lib.hid (M12.out.below bb)
      clear bb hv hin l7 G12 M12 C7
      have q7 := G13.out.cell 7 rfl
      have f7 := G13.out.free 7
      have G14 : Hid (Blk (x7.setCell ⟨x0.heap.size, 7, none⟩ (.int .u64 n7)) x0.heap.size 35 #[.int .i64 K, .int .i64 n1, .int .i64 n2, .int .i64 n3, .int .u64 n4, .int .u64 n5, .int .u64 n6, .int .u64 n7, .int .i64 0, .string ⟨#[]⟩, .int .i64 0, .int .i64 0, .int .u64 0]) := Lib.hid (G13.out.setCell 7 _)
      have M14 : Hid (Mods (· = x0.heap.size) ((x0.alloc (.cells #[.int .i64 0, .int .i64 0, .int .i64 0, .int .i64 0, .int .u64 0, .int .u64 0, .int .u64 0, .int .u64 0, .int .i64 0, .string ⟨#[]⟩, .int .i64 0, .int .i64 0, .int .u64 0] 35)).setRow x0.heap.size #[.int .i64 0, .int .i64 0, .int .i64 0, .int .i64 0, .int .u64 0, .int .u64 0, .int .u64 0, .int .u64 0, .int .i64 0, .string ⟨#[]⟩, .int .i64 0, .int .i64 0, .int .u64 0]) (x7.setCell ⟨x0.heap.size, 7, none⟩ (.int .u64 n7))) := Lib.hid (M13.out.setCell _ (.inl rfl) _)
      clear G13 M13
      have l8 : World.cell? (x7.setCell ⟨x0.heap.size, 7, none⟩ (.int .u64 n7)) ⟨b, off + 8, none⟩ = some (.string ⟨w8.toArray⟩) := (M14.out.cell (p := ⟨b, off + 8, none⟩) hlt2 (by simp only; omega)).trans (HR2.out 8 _ rfl)
      go_wp2_with (go_at_call 46; refine (C8.out _).mono ?_)
      first | rintro e x8 ⟨bb, n8, hin, rfl, hv⟩ | rintro e x8 bb n8 hin rfl hv
      have G15 := Lib.hid (G14.out.kept bb)
      have M15 := Lib.hid (M14.out.below bb)
      clear bb hv hin l8 G14 M14 C8
      have q8 := G15.out.cell 8 rfl
      have f8 := G15.out.free 8
      have G16 : Hid (Blk (x8.setCell ⟨x0.heap.size, 8, none⟩ (.int .i64 n8)) x0.heap.size 35 #[.int .i64 K, .int .i64 n1, .int .i64 n2, .int .i64 n3, .int .u64 n4, .int .u64 n5, .int .u64 n6, .int .u64 n7, .int .i64 n8, .string ⟨#[]⟩, .int .i64 0, .int .i64 0, .int .u64 0]) := Lib.hid (G15.out.setCell 8 _)
      have M16 : Hid (Mods (· = x0.heap.size) ((x0.alloc (.cells #[.int .i64 0, .int .i64 0, .int .i64 0, .int .i64 0, .int .u64 0, .int .u64 0, .int .u64 0, .int .u64 0, .int .i64 0, .string ⟨#[]⟩, .int .i64 0, .int .i64 0, .int .u64 0] 35)).setRow x0.heap.size #[.int .i64 0, .int .i64 0, .int .i64 0, .int .i64 0, .int .u64 0, .int .u64 0, .int .u64 0, .int .u64 0, .int .i64 0, .string ⟨#[]⟩, .int .i64 0, .int .i64 0, .int .u64 0]) (x8.setCell ⟨x0.heap.size, 8, none⟩ (.int .i64 n8))) := Lib.hid (M15.out.setCell _ (.inl rfl) _)
      clear G15 M15
      have l9 : World.cell? (x8.setCell ⟨x0.heap.size, 8, none⟩ (.int .i64 n8)) ⟨b, off + 9, none⟩ = some (.string ⟨w9.toArray⟩) := (M16.out.cell (p := ⟨b, off + 9, none⟩) hlt2 (by simp only; omega)).trans (HR2.out 9 _ rfl)
      go_wp2_with (go_at_call 48; refine (C9.out _).mono ?_)
      first | rintro e x9 ⟨bb, n9, rfl, hin, hv⟩ | rintro e x9 bb n9 rfl hin hv
      have G17 := Lib.hid (G16.out.kept bb)
      have M17 := Lib.hid (M16.out.below bb)
      clear bb hv hin l9 G16 M16 C9
      have q9 := G17.out.cell 9 rfl
      have f9 := G17.out.free 9
      have G18 : Hid (Blk (x9.setCell ⟨x0.heap.size, 9, none⟩ (.string ⟨n9.toArray⟩)) x0.heap.size 35 #[.int .i64 K, .int .i64 n1, .int .i64 n2, .int .i64 n3, .int .u64 n4, .int .u64 n5, .int .u64 n6, .int .u64 n7, .int .i64 n8, .string ⟨n9.toArray⟩, .int .i64 0, .int .i64 0, .int .u64 0]) := Lib.hid (G17.out.setCell 9 _)
      have M18 : Hid (Mods (· = x0.heap.size) ((x0.alloc (.cells #[.int .i64 0, .int .i64 0, .int .i64 0, .int .i64 0, .int .u64 0, .int .u64 0, .int .u64 0, .int .u64 0, .int .i64 0, .string ⟨#[]⟩, .int .i64 0, .int .i64 0, .int .u64 0] 35)).setRow x0.heap.size #[.int .i64 0, .int .i64 0, .int .i64 0, .int .i64 0, .int .u64 0, .int .u64 0, .int .u64 0, .int .u64 0, .int .i64 0, .string ⟨#[]⟩, .int .i64 0, .int .i64 0, .int .u64 0]) (x9.setCell ⟨x0.heap.size, 9, none⟩ (.string ⟨n9.toArray⟩))) := Lib.hid (M17.out.setCell _ (.inl rfl) _)
      clear G17 M17
      have l10 : World.cell? (x9.setCell ⟨x0.heap.size, 9, none⟩ (.string ⟨n9.toArray⟩)) ⟨b, off + 10, none⟩ = some (.string ⟨w10.toArray⟩) := (M18.out.cell (p := ⟨b, off + 10, none⟩) hlt2 (by simp only; omega)).trans (HR2.out 10 _ rfl)
      go_wp2_with (go_at_call 46; refine (C10.out _).mono ?_)
      first | rintro e x10 ⟨bb, n10, hin, rfl, hv⟩ | rintro e x10 bb n10 hin rfl hv
      have G19 := Lib.hid (G18.out.kept bb)
      have M19 := Lib.hid (M18.out.below bb)
      clear bb hv hin l10 G18 M18 C10
      have q10 := G19.out.cell 10 rfl
      have f10 := G19.out.free 10
      have G20 : Hid (Blk (x10.setCell ⟨x0.heap.size, 10, none⟩ (.int .i64 n10)) x0.heap.size 35 #[.int .i64 K, .int .i64 n1, .int .i64 n2, .int .i64 n3, .int .u64 n4, .int .u64 n5, .int .u64 n6, .int .u64 n7, .int .i64 n8, .string ⟨n9.toArray⟩, .int .i64 n10, .int .i64 0, .int .u64 0]) := Lib.hid (G19.out.setCell 10 _)
      have M20 : Hid (Mods (· = x0.heap.size) ((x0.alloc (.cells #[.int .i64 0, .int .i64 0, .int .i64 0, .int .i64 0, .int .u64 0, .int .u64 0, .int .u64 0, .int .u64 0, .int .i64 0, .string ⟨#[]⟩, .int .i64 0, .int .i64 0, .int .u64 0] 35)).setRow x0.heap.size #[.int .i64 0, .int .i64 0, .int .i64 0, .int .i64 0, .int .u64 0, .int .u64 0, .int .u64 0, .int .u64 0, .int .i64 0, .string ⟨#[]⟩, .int .i64 0, .int .i64 0, .int .u64 0]) (x10.setCell ⟨x0.heap.size, 10, none⟩ (.int .i64 n10))) := Lib.hid (M19.out.setCell _ (.inl rfl) _)
      clear G19 M19
      have l11 : World.cell? (x10.setCell ⟨x0.heap.size, 10, none⟩ (.int .i64 n10)) ⟨b, off + 11, none⟩ = some (.string ⟨w11.toArray⟩) := (M20.out.cell (p := ⟨b, off + 11, none⟩) hlt2 (by simp only; omega)).trans (HR2.out 11 _ rfl)
      go_wp2_with (go_at_call 46; refine (C11.out _).mono ?_)
      first | rintro e x11 ⟨bb, n11, hin, rfl, hv⟩ | rintro e x11 bb n11 hin rfl hv
      have G21 := Lib.hid (G20.out.kept bb)
      have M21 := Lib.hid (M20.out.below bb)
      clear bb hv hin l11 G20 M20 C11
      have q11 := G21.out.cell 11 rfl
      have f11 := G21.out.free 11
      have G22 : Hid (Blk (x11.setCell ⟨x0.heap.size, 11, none⟩ (.int .i64 n11)) x0.heap.size 35 #[.int .i64 K, .int .i64 n1, .int .i64 n2, .int .i64 n3, .int .u64 n4, .int .u64 n5, .int .u64 n6, .int .u64 n7, .int .i64 n8, .string ⟨n9.toArray⟩, .int .i64 n10, .int .i64 n11, .int .u64 0]) := Lib.hid (G21.out.setCell 11 _)
      have M22 : Hid (Mods (· = x0.heap.size) ((x0.alloc (.cells #[.int .i64 0, .int .i64 0, .int .i64 0, .int .i64 0, .int .u64 0, .int .u64 0, .int .u64 0, .int .u64 0, .int .i64 0, .string ⟨#[]⟩, .int .i64 0, .int .i64 0, .int .u64 0] 35)).setRow x0.heap.size #[.int .i64 0, .int .i64 0, .int .i64 0, .int .i64 0, .int .u64 0, .int .u64 0, .int .u64 0, .int .u64 0, .int .i64 0, .string ⟨#[]⟩, .int .i64 0, .int .i64 0, .int .u64 0]) (x11.setCell ⟨x0.heap.size, 11, none⟩ (.int .i64 n11))) := Lib.hid (M21.out.setCell _ (.inl rfl) _)
      clear G21 M21
      have l12 : World.cell? (x11.setCell ⟨x0.heap.size, 11, none⟩ (.int .i64 n11)) ⟨b, off + 12, none⟩ = some (.string ⟨w12.toArray⟩) := (M22.out.cell (p := ⟨b, off + 12, none⟩) hlt2 (by simp only; omega)).trans (HR2.out 12 _ rfl)
      go_wp2_with (go_at_call 47; refine (C12.out _).mono ?_)
      first | rintro e x12 ⟨bb, n12, hin, rfl, hv⟩ | rintro e x12 bb n12 hin rfl hv
      have G23 := Lib.hid (G22.out.kept bb)
      have M23 := Lib.hid (M22.out.below bb)
      clear bb hv hin l12 G22 M22 C12
      have q12 := G23.out.cell 12 rfl
      have f12 := G23.out.free 12
      have G24 : Hid (Blk (x12.setCell ⟨x0.heap.size, 12, none⟩ (.int .u64 n12)) x0.heap.size 35 #[.int .i64 K, .int .i64 n1, .int .i64 n2, .int .i64 n3, .int .u64 n4, .int .u64 n5, .int .u64 n6, .int .u64 n7, .int .i64 n8, .string ⟨n9.toArray⟩, .int .i64 n10, .int .i64 n11, .int .u64 n12]) := Lib.hid (G23.out.setCell 12 _)
      have M24 : Hid (Mods (· = x0.heap.size) ((x0.alloc (.cells #[.int .i64 0, .int .i64 0, .int .i64 0, .int .i64 0, .int .u64 0, .int .u64 0, .int .u64 0, .int .u64 0, .int .i64 0, .string ⟨#[]⟩, .int .i64 0, .int .i64 0, .int .u64 0] 35)).setRow x0.heap.size #[.int .i64 0, .int .i64 0, .int .i64 0, .int .i64 0, .int .u64 0, .int .u64 0, .int .u64 0, .int .u64 0, .int .i64 0, .string ⟨#[]⟩, .int .i64 0, .int .i64 0, .int .u64 0]) (x12.setCell ⟨x0.heap.size, 12, none⟩ (.int .u64 n12))) := Lib.hid (M23.out.setCell _ (.inl rfl) _)
      clear G23 M23
      have hX := HX2.out.mods M24.out (by omega)
      have hBl := Mods.old HA2.out M24.out HA2.out.size (fun i _ h => by have h : i = x0.heap.size := h; omega)
      obtain ⟨hb3, hx3⟩ := set_in #[.int .i64 0, .int .i64 0, .int .i64 0, .int .i64 0, .int .u64 0, .int .u64 0, .int .u64 0, .int .u64 0, .int .i64 0, .string ⟨#[]⟩, .int .i64 0, .int .i64 0, .int .u64 0] hBl hX (Nat.le_refl _)
      have HB3 := Lib.hid hb3
      have HX3 := Lib.hid hx3
      have HX := Lib.hid hX
      clear hX hBl hb3 hx3
      go_wp2_with (refine wpList_store_row rfl 35 (.tmp 2) (.tmp 190) rfl w.heap.size #[.int .i64 0, .int .i64 0, .int .i64 0, .int .i64 0, .int .u64 0, .int .u64 0, .int .u64 0, .int .u64 0, .int .i64 0, .string ⟨#[]⟩, .int .i64 0, .int .i64 0, .int .u64 0] rfl rfl _ _ HX.out act_size rfl (by simp [Value.oneCell']) ?_)
      have y0 := HX3.out.cell 0 rfl; have y1 := HX3.out.cell 1 rfl; have y2 := HX3.out.cell 2 rfl; have y3 := HX3.out.cell 3 rfl; have y4 := HX3.out.cell 4 rfl; have y5 := HX3.out.cell 5 rfl; have y6 := HX3.out.cell 6 rfl; have y7 := HX3.out.cell 7 rfl; have y8 := HX3.out.cell 8 rfl; have y9 := HX3.out.cell 9 rfl; have y10 := HX3.out.cell 10 rfl; have y11 := HX3.out.cell 11 rfl; have y12 := HX3.out.cell 12 rfl
      refine bodyPost_ret (v := .tuple #[.agg #[.int .i64 0, .int .i64 0, .int .i64 0, .int .i64 0, .int .u64 0, .int .u64 0, .int .u64 0, .int .u64 0, .int .i64 0, .string ⟨#[]⟩, .int .i64 0, .int .i64 0, .int .u64 0], .bool false]) (by simp [results, Tryd.results15, go_sem, y0, y1, y2, y3, y4, y5, y6, y7, y8, y9, y10, y11, y12]) rfl ?_
      exact refToActE_no HRES.out HB3.out

set_option maxRecDepth 20000 in
set_option maxHeartbeats 8000000 in
theorem refToAct_12 (s : List UInt8) (hs : s.length ≤ 4294967280) {w0 w1 w2 w3 w4 w5 w6 w7 w8 w9 w10 w11 w12 : List UInt8} (hp : parts 32 s = [w0, w1, w2, w3, w4, w5, w6, w7, w8, w9, w10, w11, w12]) (e0 : (kindOf w0).isSome = true) (e1 : (pint w1).isSome = true) (e2 : (pint w2).isSome = true) (e3 : (pint w3).isSome = true) (e4 : (pnum w4).isSome = true) (e5 : (pnum w5).isSome = true) (e6 : (pnum w6).isSome = true) (e7 : (pnum w7).isSome = true) (e8 : (pint w8).isSome = true) (e9 : (pkey w9).isSome = true) (e10 : (pint w10).isSome = true) (e11 : (pint w11).isSome = true) (e12 : (pnum w12).isSome = false) (w : World) : Calls Tryd.prog 15 #[.string ⟨s.toArray⟩] w (RefToActE s w) := by
  have HRES : Hid (readAct s = none) := Lib.hid (by
    cases h : readAct s with
    | none => rfl
    | some a =>
      obtain ⟨q0, q1, q2, q3, q4, q5, q6, q7, q8, q9, q10, q11, q12, qo⟩ := readAct_parts hp h
      rw [q12] at e12; cases e12)
  have hlen : ∀ x ∈ parts 32 s, x.length ≤ 140737488351232 := fun x hx => by have := parts_len 32 s x hx; omega
  have HP := Lib.hid hp
  rw [hp] at hlen
  have CW := Lib.hid (refWords s hs)
  clear HP
  unfold WordsE at CW
  simp only [hp] at CW
  have C1 := Lib.hid (refInt w1 (hlen _ (by simp)))
  unfold IntE at C1
  simp only [e1] at C1
  have C2 := Lib.hid (refInt w2 (hlen _ (by simp)))
  unfold IntE at C2
  simp only [e2] at C2
  have C3 := Lib.hid (refInt w3 (hlen _ (by simp)))
  unfold IntE at C3
  simp only [e3] at C3
  have C4 := Lib.hid (refNum w4 (hlen _ (by simp)))
  unfold NumE at C4
  simp only [e4] at C4
  have C5 := Lib.hid (refNum w5 (hlen _ (by simp)))
  unfold NumE at C5
  simp only [e5] at C5
  have C6 := Lib.hid (refNum w6 (hlen _ (by simp)))
  unfold NumE at C6
  simp only [e6] at C6
  have C7 := Lib.hid (refNum w7 (hlen _ (by simp)))
  unfold NumE at C7
  simp only [e7] at C7
  have C8 := Lib.hid (refInt w8 (hlen _ (by simp)))
  unfold IntE at C8
  simp only [e8] at C8
  have C9 := Lib.hid (refKey w9 (hlen _ (by simp)))
  unfold KeyE at C9
  simp only [e9] at C9
  have C10 := Lib.hid (refInt w10 (hlen _ (by simp)))
  unfold IntE at C10
  simp only [e10] at C10
  have C11 := Lib.hid (refInt w11 (hlen _ (by simp)))
  unfold IntE at C11
  simp only [e11] at C11
  have C12 := Lib.hid (refNum w12 (hlen _ (by simp)))
  unfold NumE at C12
  simp only [e12] at C12
  have HE0 := Lib.hid e0
  clear hp hlen e0 e1 e2 e3 e4 e5 e6 e7 e8 e9 e10 e11 e12 
  have hb0 : Below w.heap.size w (w.alloc (.cells #[.int .i64 0, .int .i64 0, .int .i64 0, .int .i64 0, .int .u64 0, .int .u64 0, .int .u64 0, .int .u64 0, .int .i64 0, .string ⟨#[]⟩, .int .i64 0, .int .i64 0, .int .u64 0] 35)) := (Below.refl _ _).alloc (Nat.le_refl _) _
  have HA0 := Lib.hid hb0
  have HX0 := Lib.hid (Blk.new w #[.int .i64 0, .int .i64 0, .int .i64 0, .int .i64 0, .int .u64 0, .int .u64 0, .int .u64 0, .int .u64 0, .int .i64 0, .string ⟨#[]⟩, .int .i64 0, .int .i64 0, .int .u64 0] 35)
  clear hb0
  go_enter Tryd.func15, Tryd.ntmps15
  go_wp2_with (go_at_call 45; refine (CW.out _).mono ?_)
  first | rintro e x0 ⟨hb, A, c, rfl, hr⟩ | rintro e x0 hb A c rfl hr
  obtain ⟨b, off, rfl, hlt, hc⟩ := hr.at_ (by simp [svals])
  have HA1 := Lib.hid (HA0.out.trans (hb.mono HA0.out.size))
  have HX1 := Lib.hid (HX0.out.kept hb)
  have hlt0 := HX1.out.lt
  have HN := Lib.hid (Blk.new x0 #[.int .i64 0, .int .i64 0, .int .i64 0, .int .i64 0, .int .u64 0, .int .u64 0, .int .u64 0, .int .u64 0, .int .i64 0, .string ⟨#[]⟩, .int .i64 0, .int .i64 0, .int .u64 0] 35)
  obtain ⟨hb2, hx2⟩ := row_in w x0 #[.int .i64 0, .int .i64 0, .int .i64 0, .int .i64 0, .int .u64 0, .int .u64 0, .int .u64 0, .int .u64 0, .int .i64 0, .string ⟨#[]⟩, .int .i64 0, .int .i64 0, .int .u64 0] #[.int .i64 0, .int .i64 0, .int .i64 0, .int .i64 0, .int .u64 0, .int .u64 0, .int .u64 0, .int .u64 0, .int .i64 0, .string ⟨#[]⟩, .int .i64 0, .int .i64 0, .int .u64 0] 35 HA1.out
  have HA2 := Lib.hid hb2
  have HG2 := Lib.hid hx2
  have HX2 : Hid (Blk ((x0.alloc (.cells #[.int .i64 0, .int .i64 0, .int .i64 0, .int .i64 0, .int .u64 0, .int .u64 0, .int .u64 0, .int .u64 0, .int .i64 0, .string ⟨#[]⟩, .int .i64 0, .int .i64 0, .int .u64 0] 35)).setRow x0.heap.size #[.int .i64 0, .int .i64 0, .int .i64 0, .int .i64 0, .int .u64 0, .int .u64 0, .int .u64 0, .int .u64 0, .int .i64 0, .string ⟨#[]⟩, .int .i64 0, .int .i64 0, .int .u64 0]) w.heap.size 35 #[.int .i64 0, .int .i64 0, .int .i64 0, .int .i64 0, .int .u64 0, .int .u64 0, .int .u64 0, .int .u64 0, .int .i64 0, .string ⟨#[]⟩, .int .i64 0, .int .i64 0, .int .u64 0]) := Lib.hid ((HX1.out.kept ((Below.refl _ _).alloc (Nat.le_refl _) _)).setRow_other (k := x0.heap.size) #[.int .i64 0, .int .i64 0, .int .i64 0, .int .i64 0, .int .u64 0, .int .u64 0, .int .u64 0, .int .u64 0, .int .i64 0, .string ⟨#[]⟩, .int .i64 0, .int .i64 0, .int .u64 0] (by omega))
  have HR2 : Hid (∀ j v, (svals [w0, w1, w2, w3, w4, w5, w6, w7, w8, w9, w10, w11, w12])[j]? = some v → World.cell? ((x0.alloc (.cells #[.int .i64 0, .int .i64 0, .int .i64 0, .int .i64 0, .int .u64 0, .int .u64 0, .int .u64 0, .int .u64 0, .int .i64 0, .string ⟨#[]⟩, .int .i64 0, .int .i64 0, .int .u64 0] 35)).setRow x0.heap.size #[.int .i64 0, .int .i64 0, .int .i64 0, .int .i64 0, .int .u64 0, .int .u64 0, .int .u64 0, .int .u64 0, .int .i64 0, .string ⟨#[]⟩, .int .i64 0, .int .i64 0, .int .u64 0]) ⟨b, off + j, none⟩ = some v) := Lib.hid fun j v hv => by
    rw [cell_setRow_other _ _ _ _ (by simp only; omega), ((Below.refl x0.heap.size x0).alloc (Nat.le_refl _) _).cell (p := ⟨b, off + j, none⟩) hlt]
    exact hc j v hv
  have hlt2 : b < (((x0.alloc (.cells #[.int .i64 0, .int .i64 0, .int .i64 0, .int .i64 0, .int .u64 0, .int .u64 0, .int .u64 0, .int .u64 0, .int .i64 0, .string ⟨#[]⟩, .int .i64 0, .int .i64 0, .int .u64 0] 35)).setRow x0.heap.size #[.int .i64 0, .int .i64 0, .int .i64 0, .int .i64 0, .int .u64 0, .int .u64 0, .int .u64 0, .int .u64 0, .int .i64 0, .string ⟨#[]⟩, .int .i64 0, .int .i64 0, .int .u64 0])).heap.size := by simp; omega
  clear hb hr hc hb2 hx2 HA0 HA1 HX0 HX1 CW
  go_wp2_with (refine wpList_store_row rfl 35 (.tmp 5) (.tmp 14) rfl x0.heap.size #[.int .i64 0, .int .i64 0, .int .i64 0, .int .i64 0, .int .u64 0, .int .u64 0, .int .u64 0, .int .u64 0, .int .i64 0, .string ⟨#[]⟩, .int .i64 0, .int .i64 0, .int .u64 0] rfl rfl _ _ HN.out act_size rfl (by simp [Value.oneCell']) ?_)
  go_loopw [6] (fun i wr => ∃ (k : Nat) (K : Int), 1 ≤ k ∧ k ≤ 19 ∧ i = .int .i64 (k : Int) ∧ 0 ≤ K ∧ K ≤ 18 ∧ Hid (KdInv w0 k K) ∧ Hid (Blk wr x0.heap.size 35 #[.int .i64 K, .int .i64 0, .int .i64 0, .int .i64 0, .int .u64 0, .int .u64 0, .int .u64 0, .int .u64 0, .int .i64 0, .string ⟨#[]⟩, .int .i64 0, .int .i64 0, .int .u64 0]) ∧ Hid (Mods (· = x0.heap.size) ((x0.alloc (.cells #[.int .i64 0, .int .i64 0, .int .i64 0, .int .i64 0, .int .u64 0, .int .u64 0, .int .u64 0, .int .u64 0, .int .i64 0, .string ⟨#[]⟩, .int .i64 0, .int .i64 0, .int .u64 0] 35)).setRow x0.heap.size #[.int .i64 0, .int .i64 0, .int .i64 0, .int .i64 0, .int .u64 0, .int .u64 0, .int .u64 0, .int .u64 0, .int .i64 0, .string ⟨#[]⟩, .int .i64 0, .int .i64 0, .int .u64 0]) wr)) (fun i _ => 19 - (intOf i).toNat)
  case atStart => exact ⟨1, 0, by omega, by omega, rfl, by omega, by omega, Lib.hid (KdInv.start _), HG2, Lib.hid (Mods.refl _ _)⟩
  case round =>
    obtain ⟨k, K, hk1, hk2, rfl, hK1, hK2, HI, HG, HM⟩ := hrel
    by_cases hk : k ≤ 18
    · have hgl := HG.out.lt
      have WC := Lib.hid (refWord (k : Int) (by omega) (by omega))
      have HW : Hid (wordOf (k : Int) = kindWord k) := Lib.hid (by unfold wordOf; rw [if_pos ⟨by omega, by omega⟩]; rfl)
      rw [HW.out] at WC
      have HHIT := Lib.hid (fun h => KdInv.hit (s := w0) (k := k) h hk1)
      have HMISS := Lib.hid (fun h => HI.out.miss h)
      have h0 : World.cell? wr ⟨b, off, none⟩ = some (.string ⟨w0.toArray⟩) := (HM.out.cell (p := ⟨b, off, none⟩) hlt2 (by simp only; omega)).trans (HR2.out 0 _ rfl)
      have hbl : b < wr.heap.size := Nat.lt_of_lt_of_le hlt2 HM.out.size
      generalize kindWord k = kw at *
      clear HI HW
      go_wp2_with fail
      refine wp_region_plan_gen (by kernel_rfl) [(0, true), (2, true), (3, true), (4, true), (1, false), (5, true)] (by kernel_rfl) (by kernel_rfl) (by decide) ?_
      intro y0 hy0
      have B0 : Hid (Below wr.heap.size wr y0) := Lib.hid (by rw [hy0]; exact (Below.refl _ _).drew)
      have ld0 : ∀ w', Ext y0 w' → w'.cell? ⟨b, off, none⟩ = some (.string ⟨w0.toArray⟩) := fun w' hw => (hw.cell (by rw [hy0]; simpa using hbl)).trans (by rw [hy0]; simpa using h0)
      clear hy0
      iterate 4 (refine plan_pure (v := ?_) rfl (by rfl) (fun w' hw' => ?_) ?_; rotate_left; (focus (simp only [List.getElem_toArray, List.getElem_cons_succ, List.getElem_cons_zero]; go_simp; try with_reducible rfl)); try simp only [List.getElem_toArray, List.getElem_cons_succ, List.getElem_cons_zero, Act.put, List.setIfInBounds_toArray, List.set_cons_zero, List.set_cons_succ])
      refine plan_call rfl (by rfl) (fun Q hQ => ?_)
      go_simp
      refine (WC.out y0).mono ?_
      rintro e y1 ⟨rfl, hby⟩
      refine hQ _ _ hby ?_
      clear hQ Q
      have B1 := Lib.hid (B0.out.trans (hby.mono B0.out.size))
      have HG1 := Lib.hid (HG.out.kept B1.out)
      have HM1 := Lib.hid (HM.out.below B1.out)
      clear hby
      try simp only [List.getElem_toArray, List.getElem_cons_succ, List.getElem_cons_zero, Act.put, List.setIfInBounds_toArray, List.set_cons_zero, List.set_cons_succ]
      iterate 1 (refine plan_pure (v := ?_) rfl (by rfl) (fun w' hw' => ?_) ?_; rotate_left; (focus (simp only [List.getElem_toArray, List.getElem_cons_succ, List.getElem_cons_zero]; go_simp; try with_reducible rfl)); try simp only [List.getElem_toArray, List.getElem_cons_succ, List.getElem_cons_zero, Act.put, List.setIfInBounds_toArray, List.set_cons_zero, List.set_cons_succ])
      refine plan_end ?_
      by_cases hkw : kw = w0
      · have HH := Lib.hid (HHIT.out hkw)
        rw [show (kw == w0) = true from beq_iff_eq.2 hkw]
        have q0 := HG1.out.cell 0 rfl
        have qf := HG1.out.free 0
        have HG2 : Hid (Blk (y1.setCell ⟨x0.heap.size, 0, none⟩ (.int .i64 (k : Int))) x0.heap.size 35 #[.int .i64 (k : Int), .int .i64 0, .int .i64 0, .int .i64 0, .int .u64 0, .int .u64 0, .int .u64 0, .int .u64 0, .int .i64 0, .string ⟨#[]⟩, .int .i64 0, .int .i64 0, .int .u64 0]) := Lib.hid (HG1.out.setCell 0 _)
        have HM2 := Lib.hid (HM1.out.setCell ⟨x0.heap.size, 0, none⟩ (.inl rfl) (.int .i64 (k : Int)))
        clear HHIT HMISS hkw ld0
        go_wp2_with fail
        go_roundw
        case rel => exact ⟨k + 1, (k : Int), by omega, by omega, by go_num, by omega, by omega, HH, HG2, HM2⟩
        case measure => simp [intOf]; omega
      · have HH := Lib.hid (HMISS.out hkw)
        rw [show (kw == w0) = false from beq_eq_false_iff_ne.2 hkw]
        clear HHIT HMISS hkw ld0
        go_wp2_with fail
        go_roundw
        case rel => exact ⟨k + 1, K, by omega, by omega, by go_num, by omega, by omega, HH, HG1, HM1⟩
        case measure => simp [intOf]; omega
    · obtain rfl : k = 19 := by omega
      have hf := HI.out.fin hK2
      have he0 := HE0.out
      have hK3 : 0 < K := by
        rcases hf with ⟨h, _⟩ | ⟨_, h⟩
        · rw [h] at he0; cases he0
        · exact h
      clear HI hf he0 hk1 hk2 hk HE0
      have l1 : World.cell? wr ⟨b, off + 1, none⟩ = some (.string ⟨w1.toArray⟩) := (HM.out.cell (p := ⟨b, off + 1, none⟩) hlt2 (by simp only; omega)).trans (HR2.out 1 _ rfl)
      go_wp2_with (go_at_call 46; refine (C1.out _).mono ?_)
      first | rintro e x1 ⟨bb, n1, hin, rfl, hv⟩ | rintro e x1 bb n1 hin rfl hv
      have G1 := Lib.hid (HG.out.kept bb)
      have M1 := Lib.hid (HM.out.below bb)
      clear bb hv hin l1 HG HM C1
      have l2 : World.cell? x1 ⟨b, off + 2, none⟩ = some (.string ⟨w2.toArray⟩) := (M1.out.cell (p := ⟨b, off + 2, none⟩) hlt2 (by simp only; omega)).trans (HR2.out 2 _ rfl)
      go_wp2_with (go_at_call 46; refine (C2.out _).mono ?_)
      first | rintro e x2 ⟨bb, n2, hin, rfl, hv⟩ | rintro e x2 bb n2 hin rfl hv
      have G2 := Lib.hid (G1.out.kept bb)
      have M2 := Lib.hid (M1.out.below bb)
      clear bb hv hin l2 G1 M1 C2
      have q1 := G2.out.cell 1 rfl
      have f1 := G2.out.free 1
      have G3 : Hid (Blk (x2.setCell ⟨x0.heap.size, 1, none⟩ (.int .i64 n1)) x0.heap.size 35 #[.int .i64 K, .int .i64 n1, .int .i64 0, .int .i64 0, .int .u64 0, .int .u64 0, .int .u64 0, .int .u64 0, .int .i64 0, .string ⟨#[]⟩, .int .i64 0, .int .i64 0, .int .u64 0]) := Lib.hid (G2.out.setCell 1 _)
      have M3 : Hid (Mods (· = x0.heap.size) ((x0.alloc (.cells #[.int .i64 0, .int .i64 0, .int .i64 0, .int .i64 0, .int .u64 0, .int .u64 0, .int .u64 0, .int .u64 0, .int .i64 0, .string ⟨#[]⟩, .int .i64 0, .int .i64 0, .int .u64 0] 35)).setRow x0.heap.size #[.int .i64 0, .int .i64 0, .int .i64 0, .int .i64 0, .int .u64 0, .int .u64 0, .int .u64 0, .int .u64 0, .int .i64 0, .string ⟨#[]⟩, .int .i64 0, .int .i64 0, .int .u64 0]) (x2.setCell ⟨x0.heap.size, 1, none⟩ (.int .i64 n1))) := Lib.hid (M2.out.setCell _ (.inl rfl) _)
      clear G2 M2
      have q2 := G3.out.cell 2 rfl
      have f2 := G3.out.free 2
      have G4 : Hid (Blk ((x2.setCell ⟨x0.heap.size, 1, none⟩ (.int .i64 n1)).setCell ⟨x0.heap.size, 2, none⟩ (.int .i64 n2)) x0.heap.size 35 #[.int .i64 K, .int .i64 n1, .int .i64 n2, .int .i64 0, .int .u64 0, .int .u64 0, .int .u64 0, .int .u64 0, .int .i64 0, .string ⟨#[]⟩, .int .i64 0, .int .i64 0, .int .u64 0]) := Lib.hid (G3.out.setCell 2 _)
      have M4 : Hid (Mods (· = x0.heap.size) ((x0.alloc (.cells #[.int .i64 0, .int .i64 0, .int .i64 0, .int .i64 0, .int .u64 0, .int .u64 0, .int .u64 0, .int .u64 0, .int .i64 0, .string ⟨#[]⟩, .int .i64 0, .int .i64 0, .int .u64 0] 35)).setRow x0.heap.size #[.int .i64 0, .int .i64 0, .int .i64 0, .int .i64 0, .int .u64 0, .int .u64 0, .int .u64 0, .int .u64 0, .int .i64 0, .string ⟨#[]⟩, .int .i64 0, .int .i64 0, .int .u64 0]) ((x2.setCell ⟨x0.heap.size, 1, none⟩ (.int .i64 n1)).setCell ⟨x0.heap.size, 2, none⟩ (.int .i64 n2))) := Lib.hid (M3.out.setCell _ (.inl rfl) _)
      clear G3 M3
      have l3 : World.cell? ((x2.setCell ⟨x0.heap.size, 1, none⟩ (.int .i64 n1)).setCell ⟨x0.heap.size, 2, none⟩ (.int .i64 n2)) ⟨b, off + 3, none⟩ = some (.string ⟨w3.toArray⟩) := (M4.out.cell (p := ⟨b, off + 3, none⟩) hlt2 (by simp only; omega)).trans (HR2.out 3 _ rfl)
      have lk := G4.out.cell 0 rfl
      go_wp2_with (go_at_call 46; refine (C3.out _).mono ?_)
      first | rintro e x3 ⟨bb, n3, hin, rfl, hv⟩ | rintro e x3 bb n3 hin rfl hv
      have G5 := Lib.hid (G4.out.kept bb)
      have M5 := Lib.hid (M4.out.below bb)
      clear bb hv hin l3 G4 M4 lk C3
      have q3 := G5.out.cell 3 rfl
      have f3 := G5.out.free 3
      have G6 : Hid (Blk (x3.setCell ⟨x0.heap.size, 3, none⟩ (.int .i64 n3)) x0.heap.size 35 #[.int .i64 K, .int .i64 n1, .int .i64 n2, .int .i64 n3, .int .u64 0, .int .u64 0, .int .u64 0, .int .u64 0, .int .i64 0, .string ⟨#[]⟩, .int .i64 0, .int .i64 0, .int .u64 0]) := Lib.hid (G5.out.setCell 3 _)
      have M6 : Hid (Mods (· = x0.heap.size) ((x0.alloc (.cells #[.int .i64 0, .int .i64 0, .int .i64 0, .int .i64 0, .int .u64 0, .int .u64 0, .int .u64 0, .int .u64 0, .int .i64 0, .string ⟨#[]⟩, .int .i64 0, .int .i64 0, .int .u64 0] 35)).setRow x0.heap.size #[.int .i64 0, .int .i64 0, .int .i64 0, .int .i64 0, .int .u64 0, .int .u64 0, .int .u64 0, .int .u64 0, .int .i64 0, .string ⟨#[]⟩, .int .i64 0, .int .i64 0, .int .u64 0]) (x3.setCell ⟨x0.heap.size, 3, none⟩ (.int .i64 n3))) := Lib.hid (M5.out.setCell _ (.inl rfl) _)
      clear G5 M5
      have l4 : World.cell? (x3.setCell ⟨x0.heap.size, 3, none⟩ (.int .i64 n3)) ⟨b, off + 4, none⟩ = some (.string ⟨w4.toArray⟩) := (M6.out.cell (p := ⟨b, off + 4, none⟩) hlt2 (by simp only; omega)).trans (HR2.out 4 _ rfl)
      go_wp2_with (go_at_call 47; refine (C4.out _).mono ?_)
      first | rintro e x4 ⟨bb, n4, hin, rfl, hv⟩ | rintro e x4 bb n4 hin rfl hv
      have G7 := Lib.hid (G6.out.kept bb)
      have M7 := Lib.hid (M6.out.below bb)
      clear bb hv hin l4 G6 M6 C4
      have q4 := G7.out.cell 4 rfl
      have f4 := G7.out.free 4
      have G8 : Hid (Blk (x4.setCell ⟨x0.heap.size, 4, none⟩ (.int .u64 n4)) x0.heap.size 35 #[.int .i64 K, .int .i64 n1, .int .i64 n2, .int .i64 n3, .int .u64 n4, .int .u64 0, .int .u64 0, .int .u64 0, .int .i64 0, .string ⟨#[]⟩, .int .i64 0, .int .i64 0, .int .u64 0]) := Lib.hid (G7.out.setCell 4 _)
      have M8 : Hid (Mods (· = x0.heap.size) ((x0.alloc (.cells #[.int .i64 0, .int .i64 0, .int .i64 0, .int .i64 0, .int .u64 0, .int .u64 0, .int .u64 0, .int .u64 0, .int .i64 0, .string ⟨#[]⟩, .int .i64 0, .int .i64 0, .int .u64 0] 35)).setRow x0.heap.size #[.int .i64 0, .int .i64 0, .int .i64 0, .int .i64 0, .int .u64 0, .int .u64 0, .int .u64 0, .int .u64 0, .int .i64 0, .string ⟨#[]⟩, .int .i64 0, .int .i64 0, .int .u64 0]) (x4.setCell ⟨x0.heap.size, 4, none⟩ (.int .u64 n4))) := Lib.hid (M7.out.setCell _ (.inl rfl) _)
      clear G7 M7
      have l5 : World.cell? (x4.setCell ⟨x0.heap.size, 4, none⟩ (.int .u64 n4)) ⟨b, off + 5, none⟩ = some (.string ⟨w5.toArray⟩) := (M8.out.cell (p := ⟨b, off + 5, none⟩) hlt2 (by simp only; omega)).trans (HR2.out 5 _ rfl)
      go_wp2_with (go_at_call 47; refine (C5.out _).mono ?_)
      first | rintro e x5 ⟨bb, n5, hin, rfl, hv⟩ | rintro e x5 bb n5 hin rfl hv
      have G9 := Lib.hid (G8.out.kept bb)
      have M9 := Lib.hid (M8.out.below bb)
      clear bb hv hin l5 G8 M8 C5
      have q5 := G9.out.cell 5 rfl
      have f5 := G9.out.free 5
      have G10 : Hid (Blk (x5.setCell ⟨x0.heap.size, 5, none⟩ (.int .u64 n5)) x0.heap.size 35 #[.int .i64 K, .int .i64 n1, .int .i64 n2, .int .i64 n3, .int .u64 n4, .int .u64 n5, .int .u64 0, .int .u64 0, .int .i64 0, .string ⟨#[]⟩, .int .i64 0, .int .i64 0, .int .u64 0]) := Lib.hid (G9.out.setCell 5 _)
      have M10 : Hid (Mods (· = x0.heap.size) ((x0.alloc (.cells #[.int .i64 0, .int .i64 0, .int .i64 0, .int .i64 0, .int .u64 0, .int .u64 0, .int .u64 0, .int .u64 0, .int .i64 0, .string ⟨#[]⟩, .int .i64 0, .int .i64 0, .int .u64 0] 35)).setRow x0.heap.size #[.int .i64 0, .int .i64 0, .int .i64 0, .int .i64 0, .int .u64 0, .int .u64 0, .int .u64 0, .int .u64 0, .int .i64 0, .string ⟨#[]⟩, .int .i64 0, .int .i64 0, .int .u64 0]) (x5.setCell ⟨x0.heap.size, 5, none⟩ (.int .u64 n5))) := Lib.hid (M9.out.setCell _ (.inl rfl) _)
      clear G9 M9
      have l6 : World.cell? (x5.setCell ⟨x0.heap.size, 5, none⟩ (.int .u64 n5)) ⟨b, off + 6, none⟩ = some (.string ⟨w6.toArray⟩) := (M10.out.cell (p := ⟨b, off + 6, none⟩) hlt2 (by simp only; omega)).trans (HR2.out 6 _ rfl)
      go_wp2_with (go_at_call 47; refine (C6.out _).mono ?_)
      first | rintro e x6 ⟨bb, n6, hin, rfl, hv⟩ | rintro e x6 bb n6 hin rfl hv
      have G11 := Lib.hid (G10.out.kept bb)
      have M11 := Lib.hid (M10.out.below bb)
      clear bb hv hin l6 G10 M10 C6
      have q6 := G11.out.cell 6 rfl
      have f6 := G11.out.free 6
      have G12 : Hid (Blk (x6.setCell ⟨x0.heap.size, 6, none⟩ (.int .u64 n6)) x0.heap.size 35 #[.int .i64 K, .int .i64 n1, .int .i64 n2, .int .i64 n3, .int .u64 n4, .int .u64 n5, .int .u64 n6, .int .u64 0, .int .i64 0, .string ⟨#[]⟩, .int .i64 0, .int .i64 0, .int .u64 0]) := Lib.hid (G11.out.setCell 6 _)
      have M12 : Hid (Mods (· = x0.heap.size) ((x0.alloc (.cells #[.int .i64 0, .int .i64 0, .int .i64 0, .int .i64 0, .int .u64 0, .int .u64 0, .int .u64 0, .int .u64 0, .int .i64 0, .string ⟨#[]⟩, .int .i64 0, .int .i64 0, .int .u64 0] 35)).setRow x0.heap.size #[.int .i64 0, .int .i64 0, .int .i64 0, .int .i64 0, .int .u64 0, .int .u64 0, .int .u64 0, .int .u64 0, .int .i64 0, .string ⟨#[]⟩, .int .i64 0, .int .i64 0, .int .u64 0]) (x6.setCell ⟨x0.heap.size, 6, none⟩ (.int .u64 n6))) := Lib.hid (M11.out.setCell _ (.inl rfl) _)
      clear G11 M11
      have l7 : World.cell? (x6.setCell ⟨x0.heap.size, 6, none⟩ (.int .u64 n6)) ⟨b, off + 7, none⟩ = some (.string ⟨w7.toArray⟩) := (M12.out.cell (p := ⟨b, off + 7, none⟩) hlt2 (by simp only; omega)).trans (HR2.out 7 _ rfl)
      go_wp2_with (go_at_call 47; refine (C7.out _).mono ?_)
      first | rintro e x7 ⟨bb, n7, hin, rfl, hv⟩ | rintro e x7 bb n7 hin rfl hv
      have G13 := Lib.hid (G12.out.kept bb)
      have M13 := Lib.hid (M12.out.below bb)
      clear bb hv hin l7 G12 M12 C7
      have q7 := G13.out.cell 7 rfl
      have f7 := G13.out.free 7
      have G14 : Hid (Blk (x7.setCell ⟨x0.heap.size, 7, none⟩ (.int .u64 n7)) x0.heap.size 35 #[.int .i64 K, .int .i64 n1, .int .i64 n2, .int .i64 n3, .int .u64 n4, .int .u64 n5, .int .u64 n6, .int .u64 n7, .int .i64 0, .string ⟨#[]⟩, .int .i64 0, .int .i64 0, .int .u64 0]) := Lib.hid (G13.out.setCell 7 _)
      have M14 : Hid (Mods (· = x0.heap.size) ((x0.alloc (.cells #[.int .i64 0, .int .i64 0, .int .i64 0, .int .i64 0, .int .u64 0, .int .u64 0, .int .u64 0, .int .u64 0, .int .i64 0, .string ⟨#[]⟩, .int .i64 0, .int .i64 0, .int .u64 0] 35)).setRow x0.heap.size #[.int .i64 0, .int .i64 0, .int .i64 0, .int .i64 0, .int .u64 0, .int .u64 0, .int .u64 0, .int .u64 0, .int .i64 0, .string ⟨#[]⟩, .int .i64 0, .int .i64 0, .int .u64 0]) (x7.setCell ⟨x0.heap.size, 7, none⟩ (.int .u64 n7))) := Lib.hid (M13.out.setCell _ (.inl rfl) _)
      clear G13 M13
      have l8 : World.cell? (x7.setCell ⟨x0.heap.size, 7, none⟩ (.int .u64 n7)) ⟨b, off + 8, none⟩ = some (.string ⟨w8.toArray⟩) := (M14.out.cell (p := ⟨b, off + 8, none⟩) hlt2 (by simp only; omega)).trans (HR2.out 8 _ rfl)
      go_wp2_with (go_at_call 46; refine (C8.out _).mono ?_)
      first | rintro e x8 ⟨bb, n8, hin, rfl, hv⟩ | rintro e x8 bb n8 hin rfl hv
      have G15 := Lib.hid (G14.out.kept bb)
      have M15 := Lib.hid (M14.out.below bb)
      clear bb hv hin l8 G14 M14 C8
      have q8 := G15.out.cell 8 rfl
      have f8 := G15.out.free 8
      have G16 : Hid (Blk (x8.setCell ⟨x0.heap.size, 8, none⟩ (.int .i64 n8)) x0.heap.size 35 #[.int .i64 K, .int .i64 n1, .int .i64 n2, .int .i64 n3, .int .u64 n4, .int .u64 n5, .int .u64 n6, .int .u64 n7, .int .i64 n8, .string ⟨#[]⟩, .int .i64 0, .int .i64 0, .int .u64 0]) := Lib.hid (G15.out.setCell 8 _)
      have M16 : Hid (Mods (· = x0.heap.size) ((x0.alloc (.cells #[.int .i64 0, .int .i64 0, .int .i64 0, .int .i64 0, .int .u64 0, .int .u64 0, .int .u64 0, .int .u64 0, .int .i64 0, .string ⟨#[]⟩, .int .i64 0, .int .i64 0, .int .u64 0] 35)).setRow x0.heap.size #[.int .i64 0, .int .i64 0, .int .i64 0, .int .i64 0, .int .u64 0, .int .u64 0, .int .u64 0, .int .u64 0, .int .i64 0, .string ⟨#[]⟩, .int .i64 0, .int .i64 0, .int .u64 0]) (x8.setCell ⟨x0.heap.size, 8, none⟩ (.int .i64 n8))) := Lib.hid (M15.out.setCell _ (.inl rfl) _)
      clear G15 M15
      have l9 : World.cell? (x8.setCell ⟨x0.heap.size, 8, none⟩ (.int .i64 n8)) ⟨b, off + 9, none⟩ = some (.string ⟨w9.toArray⟩) := (M16.out.cell (p := ⟨b, off + 9, none⟩) hlt2 (by simp only; omega)).trans (HR2.out 9 _ rfl)
      go_wp2_with (go_at_call 48; refine (C9.out _).mono ?_)
      first | rintro e x9 ⟨bb, n9, rfl, hin, hv⟩ | rintro e x9 bb n9 rfl hin hv
      have G17 := Lib.hid (G16.out.kept bb)
      have M17 := Lib.hid (M16.out.below bb)
      clear bb hv hin l9 G16 M16 C9
      have q9 := G17.out.cell 9 rfl
      have f9 := G17.out.free 9
      have G18 : Hid (Blk (x9.setCell ⟨x0.heap.size, 9, none⟩ (.string ⟨n9.toArray⟩)) x0.heap.size 35 #[.int .i64 K, .int .i64 n1, .int .i64 n2, .int .i64 n3, .int .u64 n4, .int .u64 n5, .int .u64 n6, .int .u64 n7, .int .i64 n8, .string ⟨n9.toArray⟩, .int .i64 0, .int .i64 0, .int .u64 0]) := Lib.hid (G17.out.setCell 9 _)
      have M18 : Hid (Mods (· = x0.heap.size) ((x0.alloc (.cells #[.int .i64 0, .int .i64 0, .int .i64 0, .int .i64 0, .int .u64 0, .int .u64 0, .int .u64 0, .int .u64 0, .int .i64 0, .string ⟨#[]⟩, .int .i64 0, .int .i64 0, .int .u64 0] 35)).setRow x0.heap.size #[.int .i64 0, .int .i64 0, .int .i64 0, .int .i64 0, .int .u64 0, .int .u64 0, .int .u64 0, .int .u64 0, .int .i64 0, .string ⟨#[]⟩, .int .i64 0, .int .i64 0, .int .u64 0]) (x9.setCell ⟨x0.heap.size, 9, none⟩ (.string ⟨n9.toArray⟩))) := Lib.hid (M17.out.setCell _ (.inl rfl) _)
      clear G17 M17
      have l10 : World.cell? (x9.setCell ⟨x0.heap.size, 9, none⟩ (.string ⟨n9.toArray⟩)) ⟨b, off + 10, none⟩ = some (.string ⟨w10.toArray⟩) := (M18.out.cell (p := ⟨b, off + 10, none⟩) hlt2 (by simp only; omega)).trans (HR2.out 10 _ rfl)
      go_wp2_with (go_at_call 46; refine (C10.out _).mono ?_)
      first | rintro e x10 ⟨bb, n10, hin, rfl, hv⟩ | rintro e x10 bb n10 hin rfl hv
      have G19 := Lib.hid (G18.out.kept bb)
      have M19 := Lib.hid (M18.out.below bb)
      clear bb hv hin l10 G18 M18 C10
      have q10 := G19.out.cell 10 rfl
      have f10 := G19.out.free 10
      have G20 : Hid (Blk (x10.setCell ⟨x0.heap.size, 10, none⟩ (.int .i64 n10)) x0.heap.size 35 #[.int .i64 K, .int .i64 n1, .int .i64 n2, .int .i64 n3, .int .u64 n4, .int .u64 n5, .int .u64 n6, .int .u64 n7, .int .i64 n8, .string ⟨n9.toArray⟩, .int .i64 n10, .int .i64 0, .int .u64 0]) := Lib.hid (G19.out.setCell 10 _)
      have M20 : Hid (Mods (· = x0.heap.size) ((x0.alloc (.cells #[.int .i64 0, .int .i64 0, .int .i64 0, .int .i64 0, .int .u64 0, .int .u64 0, .int .u64 0, .int .u64 0, .int .i64 0, .string ⟨#[]⟩, .int .i64 0, .int .i64 0, .int .u64 0] 35)).setRow x0.heap.size #[.int .i64 0, .int .i64 0, .int .i64 0, .int .i64 0, .int .u64 0, .int .u64 0, .int .u64 0, .int .u64 0, .int .i64 0, .string ⟨#[]⟩, .int .i64 0, .int .i64 0, .int .u64 0]) (x10.setCell ⟨x0.heap.size, 10, none⟩ (.int .i64 n10))) := Lib.hid (M19.out.setCell _ (.inl rfl) _)
      clear G19 M19
      have l11 : World.cell? (x10.setCell ⟨x0.heap.size, 10, none⟩ (.int .i64 n10)) ⟨b, off + 11, none⟩ = some (.string ⟨w11.toArray⟩) := (M20.out.cell (p := ⟨b, off + 11, none⟩) hlt2 (by simp only; omega)).trans (HR2.out 11 _ rfl)
      go_wp2_with (go_at_call 46; refine (C11.out _).mono ?_)
      first | rintro e x11 ⟨bb, n11, hin, rfl, hv⟩ | rintro e x11 bb n11 hin rfl hv
      have G21 := Lib.hid (G20.out.kept bb)
      have M21 := Lib.hid (M20.out.below bb)
      clear bb hv hin l11 G20 M20 C11
      have q11 := G21.out.cell 11 rfl
      have f11 := G21.out.free 11
      have G22 : Hid (Blk (x11.setCell ⟨x0.heap.size, 11, none⟩ (.int .i64 n11)) x0.heap.size 35 #[.int .i64 K, .int .i64 n1, .int .i64 n2, .int .i64 n3, .int .u64 n4, .int .u64 n5, .int .u64 n6, .int .u64 n7, .int .i64 n8, .string ⟨n9.toArray⟩, .int .i64 n10, .int .i64 n11, .int .u64 0]) := Lib.hid (G21.out.setCell 11 _)
      have M22 : Hid (Mods (· = x0.heap.size) ((x0.alloc (.cells #[.int .i64 0, .int .i64 0, .int .i64 0, .int .i64 0, .int .u64 0, .int .u64 0, .int .u64 0, .int .u64 0, .int .i64 0, .string ⟨#[]⟩, .int .i64 0, .int .i64 0, .int .u64 0] 35)).setRow x0.heap.size #[.int .i64 0, .int .i64 0, .int .i64 0, .int .i64 0, .int .u64 0, .int .u64 0, .int .u64 0, .int .u64 0, .int .i64 0, .string ⟨#[]⟩, .int .i64 0, .int .i64 0, .int .u64 0]) (x11.setCell ⟨x0.heap.size, 11, none⟩ (.int .i64 n11))) := Lib.hid (M21.out.setCell _ (.inl rfl) _)
      clear G21 M21
      have l12 : World.cell? (x11.setCell ⟨x0.heap.size, 11, none⟩ (.int .i64 n11)) ⟨b, off + 12, none⟩ = some (.string ⟨w12.toArray⟩) := (M22.out.cell (p := ⟨b, off + 12, none⟩) hlt2 (by simp only; omega)).trans (HR2.out 12 _ rfl)
      go_wp2_with (go_at_call 47; refine (C12.out _).mono ?_)
      first | rintro e x12 ⟨bb, n12, hin, rfl, hv⟩ | rintro e x12 bb n12 hin rfl hv
      have G23 := Lib.hid (G22.out.kept bb)
      have M23 := Lib.hid (M22.out.below bb)
      clear bb hv hin l12 G22 M22 C12
      have q12 := G23.out.cell 12 rfl
      have f12 := G23.out.free 12
      have G24 : Hid (Blk (x12.setCell ⟨x0.heap.size, 12, none⟩ (.int .u64 n12)) x0.heap.size 35 #[.int .i64 K, .int .i64 n1, .int .i64 n2, .int .i64 n3, .int .u64 n4, .int .u64 n5, .int .u64 n6, .int .u64 n7, .int .i64 n8, .string ⟨n9.toArray⟩, .int .i64 n10, .int .i64 n11, .int .u64 n12]) := Lib.hid (G23.out.setCell 12 _)
      have M24 : Hid (Mods (· = x0.heap.size) ((x0.alloc (.cells #[.int .i64 0, .int .i64 0, .int .i64 0, .int .i64 0, .int .u64 0, .int .u64 0, .int .u64 0, .int .u64 0, .int .i64 0, .string ⟨#[]⟩, .int .i64 0, .int .i64 0, .int .u64 0] 35)).setRow x0.heap.size #[.int .i64 0, .int .i64 0, .int .i64 0, .int .i64 0, .int .u64 0, .int .u64 0, .int .u64 0, .int .u64 0, .int .i64 0, .string ⟨#[]⟩, .int .i64 0, .int .i64 0, .int .u64 0]) (x12.setCell ⟨x0.heap.size, 12, none⟩ (.int .u64 n12))) := Lib.hid (M23.out.setCell _ (.inl rfl) _)
      clear G23 M23
      have hX := HX2.out.mods M24.out (by omega)
      have hBl := Mods.old HA2.out M24.out HA2.out.size (fun i _ h => by have h : i = x0.heap.size := h; omega)
      obtain ⟨hb3, hx3⟩ := set_in #[.int .i64 0, .int .i64 0, .int .i64 0, .int .i64 0, .int .u64 0, .int .u64 0, .int .u64 0, .int .u64 0, .int .i64 0, .string ⟨#[]⟩, .int .i64 0, .int .i64 0, .int .u64 0] hBl hX (Nat.le_refl _)
      have HB3 := Lib.hid hb3
      have HX3 := Lib.hid hx3
      have HX := Lib.hid hX
      clear hX hBl hb3 hx3
      go_wp2_with (refine wpList_store_row rfl 35 (.tmp 2) (.tmp 190) rfl w.heap.size #[.int .i64 0, .int .i64 0, .int .i64 0, .int .i64 0, .int .u64 0, .int .u64 0, .int .u64 0, .int .u64 0, .int .i64 0, .string ⟨#[]⟩, .int .i64 0, .int .i64 0, .int .u64 0] rfl rfl _ _ HX.out act_size rfl (by simp [Value.oneCell']) ?_)
      have y0 := HX3.out.cell 0 rfl; have y1 := HX3.out.cell 1 rfl; have y2 := HX3.out.cell 2 rfl; have y3 := HX3.out.cell 3 rfl; have y4 := HX3.out.cell 4 rfl; have y5 := HX3.out.cell 5 rfl; have y6 := HX3.out.cell 6 rfl; have y7 := HX3.out.cell 7 rfl; have y8 := HX3.out.cell 8 rfl; have y9 := HX3.out.cell 9 rfl; have y10 := HX3.out.cell 10 rfl; have y11 := HX3.out.cell 11 rfl; have y12 := HX3.out.cell 12 rfl
      refine bodyPost_ret (v := .tuple #[.agg #[.int .i64 0, .int .i64 0, .int .i64 0, .int .i64 0, .int .u64 0, .int .u64 0, .int .u64 0, .int .u64 0, .int .i64 0, .string ⟨#[]⟩, .int .i64 0, .int .i64 0, .int .u64 0], .bool false]) (by simp [results, Tryd.results15, go_sem, y0, y1, y2, y3, y4, y5, y6, y7, y8, y9, y10, y11, y12]) rfl ?_
      exact refToActE_no HRES.out HB3.out

set_option maxRecDepth 20000 in
set_option maxHeartbeats 8000000 in
theorem refToAct_C (s : List UInt8) (hs : s.length ≤ 4294967280) {w0 w1 w2 w3 w4 w5 w6 w7 w8 w9 w10 w11 w12 : List UInt8} (hp : parts 32 s = [w0, w1, w2, w3, w4, w5, w6, w7, w8, w9, w10, w11, w12]) {v0 v1 v2 v3 v4 v5 v6 v7 v8 v10 v11 v12 : Int} {v9 : List UInt8} (e0 : kindOf w0 = some v0) (e1 : pint w1 = some v1) (e2 : pint w2 = some v2) (e3 : pint w3 = some v3) (e4 : pnum w4 = some v4) (e5 : pnum w5 = some v5) (e6 : pnum w6 = some v6) (e7 : pnum w7 = some v7) (e8 : pint w8 = some v8) (e9 : pkey w9 = some v9) (e10 : pint w10 = some v10) (e11 : pint w11 = some v11) (e12 : pnum w12 = some v12) (ho : Cm.ok ⟨v6, v7, v8, v9, v10, v11, v12⟩ = false) (hw : Cm.wf ⟨v6, v7, v8, v9, v10, v11, v12⟩) (w : World) : Calls Tryd.prog 15 #[.string ⟨s.toArray⟩] w (RefToActE s w) := by
  have HRES : Hid (readAct s = none) := Lib.hid (by
    cases h : readAct s with
    | none => rfl
    | some a =>
      obtain ⟨q0, q1, q2, q3, q4, q5, q6, q7, q8, q9, q10, q11, q12, qo⟩ := readAct_parts hp h
      rw [e6] at q6; injection q6 with q6
      rw [e7] at q7; injection q7 with q7
      rw [e8] at q8; injection q8 with q8
      rw [e9] at q9; injection q9 with q9
      rw [e10] at q10; injection q10 with q10
      rw [e11] at q11; injection q11 with q11
      rw [e12] at q12; injection q12 with q12
      obtain ⟨_, _, _, _, _, _, c⟩ := a
      obtain ⟨_, _, _, _, _, _, _⟩ := c
      simp only at q6 q7 q8 q9 q10 q11 q12
      subst q6 q7 q8 q9 q10 q11 q12
      rw [ho] at qo; cases qo)
  have hlen : ∀ x ∈ parts 32 s, x.length ≤ 140737488351232 := fun x hx => by have := parts_len 32 s x hx; omega
  have HP := Lib.hid hp
  rw [hp] at hlen
  have CW := Lib.hid (refWords s hs)
  have C1 := Lib.hid (refInt w1 (hlen _ (by simp)))
  have E1 := Lib.hid e1
  have C2 := Lib.hid (refInt w2 (hlen _ (by simp)))
  have E2 := Lib.hid e2
  have C3 := Lib.hid (refInt w3 (hlen _ (by simp)))
  have E3 := Lib.hid e3
  have C4 := Lib.hid (refNum w4 (hlen _ (by simp)))
  have E4 := Lib.hid e4
  have C5 := Lib.hid (refNum w5 (hlen _ (by simp)))
  have E5 := Lib.hid e5
  have C6 := Lib.hid (refNum w6 (hlen _ (by simp)))
  have E6 := Lib.hid e6
  have C7 := Lib.hid (refNum w7 (hlen _ (by simp)))
  have E7 := Lib.hid e7
  have C8 := Lib.hid (refInt w8 (hlen _ (by simp)))
  have E8 := Lib.hid e8
  have C9 := Lib.hid (refKey w9 (hlen _ (by simp)))
  have E9 := Lib.hid e9
  have C10 := Lib.hid (refInt w10 (hlen _ (by simp)))
  have E10 := Lib.hid e10
  have C11 := Lib.hid (refInt w11 (hlen _ (by simp)))
  have E11 := Lib.hid e11
  have C12 := Lib.hid (refNum w12 (hlen _ (by simp)))
  have E12 := Lib.hid e12
  have CC := Lib.hid (fun W => cmdE_of (refCommanded ⟨v6, v7, v8, v9, v10, v11, v12⟩ hw W))
  rw [ho] at CC
  unfold Cm.cells at CC
  have HE0 := Lib.hid e0
  clear hp hlen e0 e1 e2 e3 e4 e5 e6 e7 e8 e9 e10 e11 e12 ho hw
  have hb0 : Below w.heap.size w (w.alloc (.cells #[.int .i64 0, .int .i64 0, .int .i64 0, .int .i64 0, .int .u64 0, .int .u64 0, .int .u64 0, .int .u64 0, .int .i64 0, .string ⟨#[]⟩, .int .i64 0, .int .i64 0, .int .u64 0] 35)) := (Below.refl _ _).alloc (Nat.le_refl _) _
  have HA0 := Lib.hid hb0
  have HX0 := Lib.hid (Blk.new w #[.int .i64 0, .int .i64 0, .int .i64 0, .int .i64 0, .int .u64 0, .int .u64 0, .int .u64 0, .int .u64 0, .int .i64 0, .string ⟨#[]⟩, .int .i64 0, .int .i64 0, .int .u64 0] 35)
  clear hb0
  go_enter Tryd.func15, Tryd.ntmps15
  go_wp2_with (go_at_call 45; refine (CW.out _).mono ?_)
  intro e x0 hpp; unfold WordsE at hpp; rw [HP.out] at hpp; obtain ⟨hb, A, c, rfl, hr⟩ := hpp
  obtain ⟨b, off, rfl, hlt, hc⟩ := hr.at_ (by simp [svals])
  have HA1 := Lib.hid (HA0.out.trans (hb.mono HA0.out.size))
  have HX1 := Lib.hid (HX0.out.kept hb)
  have hlt0 := HX1.out.lt
  have HN := Lib.hid (Blk.new x0 #[.int .i64 0, .int .i64 0, .int .i64 0, .int .i64 0, .int .u64 0, .int .u64 0, .int .u64 0, .int .u64 0, .int .i64 0, .string ⟨#[]⟩, .int .i64 0, .int .i64 0, .int .u64 0] 35)
  obtain ⟨hb2, hx2⟩ := row_in w x0 #[.int .i64 0, .int .i64 0, .int .i64 0, .int .i64 0, .int .u64 0, .int .u64 0, .int .u64 0, .int .u64 0, .int .i64 0, .string ⟨#[]⟩, .int .i64 0, .int .i64 0, .int .u64 0] #[.int .i64 0, .int .i64 0, .int .i64 0, .int .i64 0, .int .u64 0, .int .u64 0, .int .u64 0, .int .u64 0, .int .i64 0, .string ⟨#[]⟩, .int .i64 0, .int .i64 0, .int .u64 0] 35 HA1.out
  have HA2 := Lib.hid hb2
  have HG2 := Lib.hid hx2
  have HX2 : Hid (Blk ((x0.alloc (.cells #[.int .i64 0, .int .i64 0, .int .i64 0, .int .i64 0, .int .u64 0, .int .u64 0, .int .u64 0, .int .u64 0, .int .i64 0, .string ⟨#[]⟩, .int .i64 0, .int .i64 0, .int .u64 0] 35)).setRow x0.heap.size #[.int .i64 0, .int .i64 0, .int .i64 0, .int .i64 0, .int .u64 0, .int .u64 0, .int .u64 0, .int .u64 0, .int .i64 0, .string ⟨#[]⟩, .int .i64 0, .int .i64 0, .int .u64 0]) w.heap.size 35 #[.int .i64 0, .int .i64 0, .int .i64 0, .int .i64 0, .int .u64 0, .int .u64 0, .int .u64 0, .int .u64 0, .int .i64 0, .string ⟨#[]⟩, .int .i64 0, .int .i64 0, .int .u64 0]) := Lib.hid ((HX1.out.kept ((Below.refl _ _).alloc (Nat.le_refl _) _)).setRow_other (k := x0.heap.size) #[.int .i64 0, .int .i64 0, .int .i64 0, .int .i64 0, .int .u64 0, .int .u64 0, .int .u64 0, .int .u64 0, .int .i64 0, .string ⟨#[]⟩, .int .i64 0, .int .i64 0, .int .u64 0] (by omega))
  have HR2 : Hid (∀ j v, (svals [w0, w1, w2, w3, w4, w5, w6, w7, w8, w9, w10, w11, w12])[j]? = some v → World.cell? ((x0.alloc (.cells #[.int .i64 0, .int .i64 0, .int .i64 0, .int .i64 0, .int .u64 0, .int .u64 0, .int .u64 0, .int .u64 0, .int .i64 0, .string ⟨#[]⟩, .int .i64 0, .int .i64 0, .int .u64 0] 35)).setRow x0.heap.size #[.int .i64 0, .int .i64 0, .int .i64 0, .int .i64 0, .int .u64 0, .int .u64 0, .int .u64 0, .int .u64 0, .int .i64 0, .string ⟨#[]⟩, .int .i64 0, .int .i64 0, .int .u64 0]) ⟨b, off + j, none⟩ = some v) := Lib.hid fun j v hv => by
    rw [cell_setRow_other _ _ _ _ (by simp only; omega), ((Below.refl x0.heap.size x0).alloc (Nat.le_refl _) _).cell (p := ⟨b, off + j, none⟩) hlt]
    exact hc j v hv
  have hlt2 : b < (((x0.alloc (.cells #[.int .i64 0, .int .i64 0, .int .i64 0, .int .i64 0, .int .u64 0, .int .u64 0, .int .u64 0, .int .u64 0, .int .i64 0, .string ⟨#[]⟩, .int .i64 0, .int .i64 0, .int .u64 0] 35)).setRow x0.heap.size #[.int .i64 0, .int .i64 0, .int .i64 0, .int .i64 0, .int .u64 0, .int .u64 0, .int .u64 0, .int .u64 0, .int .i64 0, .string ⟨#[]⟩, .int .i64 0, .int .i64 0, .int .u64 0])).heap.size := by simp; omega
  clear hb hr hc hb2 hx2 HA0 HA1 HX0 HX1 CW
  go_wp2_with (refine wpList_store_row rfl 35 (.tmp 5) (.tmp 14) rfl x0.heap.size #[.int .i64 0, .int .i64 0, .int .i64 0, .int .i64 0, .int .u64 0, .int .u64 0, .int .u64 0, .int .u64 0, .int .i64 0, .string ⟨#[]⟩, .int .i64 0, .int .i64 0, .int .u64 0] rfl rfl _ _ HN.out act_size rfl (by simp [Value.oneCell']) ?_)
  go_loopw [6] (fun i wr => ∃ (k : Nat) (K : Int), 1 ≤ k ∧ k ≤ 19 ∧ i = .int .i64 (k : Int) ∧ 0 ≤ K ∧ K ≤ 18 ∧ Hid (KdInv w0 k K) ∧ Hid (Blk wr x0.heap.size 35 #[.int .i64 K, .int .i64 0, .int .i64 0, .int .i64 0, .int .u64 0, .int .u64 0, .int .u64 0, .int .u64 0, .int .i64 0, .string ⟨#[]⟩, .int .i64 0, .int .i64 0, .int .u64 0]) ∧ Hid (Mods (· = x0.heap.size) ((x0.alloc (.cells #[.int .i64 0, .int .i64 0, .int .i64 0, .int .i64 0, .int .u64 0, .int .u64 0, .int .u64 0, .int .u64 0, .int .i64 0, .string ⟨#[]⟩, .int .i64 0, .int .i64 0, .int .u64 0] 35)).setRow x0.heap.size #[.int .i64 0, .int .i64 0, .int .i64 0, .int .i64 0, .int .u64 0, .int .u64 0, .int .u64 0, .int .u64 0, .int .i64 0, .string ⟨#[]⟩, .int .i64 0, .int .i64 0, .int .u64 0]) wr)) (fun i _ => 19 - (intOf i).toNat)
  case atStart => exact ⟨1, 0, by omega, by omega, rfl, by omega, by omega, Lib.hid (KdInv.start _), HG2, Lib.hid (Mods.refl _ _)⟩
  case round =>
    obtain ⟨k, K, hk1, hk2, rfl, hK1, hK2, HI, HG, HM⟩ := hrel
    by_cases hk : k ≤ 18
    · have hgl := HG.out.lt
      have WC := Lib.hid (refWord (k : Int) (by omega) (by omega))
      have HW : Hid (wordOf (k : Int) = kindWord k) := Lib.hid (by unfold wordOf; rw [if_pos ⟨by omega, by omega⟩]; rfl)
      rw [HW.out] at WC
      have HHIT := Lib.hid (fun h => KdInv.hit (s := w0) (k := k) h hk1)
      have HMISS := Lib.hid (fun h => HI.out.miss h)
      have h0 : World.cell? wr ⟨b, off, none⟩ = some (.string ⟨w0.toArray⟩) := (HM.out.cell (p := ⟨b, off, none⟩) hlt2 (by simp only; omega)).trans (HR2.out 0 _ rfl)
      have hbl : b < wr.heap.size := Nat.lt_of_lt_of_le hlt2 HM.out.size
      generalize kindWord k = kw at *
      clear HI HW
      go_wp2_with fail
      refine wp_region_plan_gen (by kernel_rfl) [(0, true), (2, true), (3, true), (4, true), (1, false), (5, true)] (by kernel_rfl) (by kernel_rfl) (by decide) ?_
      intro y0 hy0
      have B0 : Hid (Below wr.heap.size wr y0) := Lib.hid (by rw [hy0]; exact (Below.refl _ _).drew)
      have ld0 : ∀ w', Ext y0 w' → w'.cell? ⟨b, off, none⟩ = some (.string ⟨w0.toArray⟩) := fun w' hw => (hw.cell (by rw [hy0]; simpa using hbl)).trans (by rw [hy0]; simpa using h0)
      clear hy0
      iterate 4 (refine plan_pure (v := ?_) rfl (by rfl) (fun w' hw' => ?_) ?_; rotate_left; (focus (simp only [List.getElem_toArray, List.getElem_cons_succ, List.getElem_cons_zero]; go_simp; try with_reducible rfl)); try simp only [List.getElem_toArray, List.getElem_cons_succ, List.getElem_cons_zero, Act.put, List.setIfInBounds_toArray, List.set_cons_zero, List.set_cons_succ])
      refine plan_call rfl (by rfl) (fun Q hQ => ?_)
      go_simp
      refine (WC.out y0).mono ?_
      rintro e y1 ⟨rfl, hby⟩
      refine hQ _ _ hby ?_
      clear hQ Q
      have B1 := Lib.hid (B0.out.trans (hby.mono B0.out.size))
      have HG1 := Lib.hid (HG.out.kept B1.out)
      have HM1 := Lib.hid (HM.out.below B1.out)
      clear hby
      try simp only [List.getElem_toArray, List.getElem_cons_succ, List.getElem_cons_zero, Act.put, List.setIfInBounds_toArray, List.set_cons_zero, List.set_cons_succ]
      iterate 1 (refine plan_pure (v := ?_) rfl (by rfl) (fun w' hw' => ?_) ?_; rotate_left; (focus (simp only [List.getElem_toArray, List.getElem_cons_succ, List.getElem_cons_zero]; go_simp; try with_reducible rfl)); try simp only [List.getElem_toArray, List.getElem_cons_succ, List.getElem_cons_zero, Act.put, List.setIfInBounds_toArray, List.set_cons_zero, List.set_cons_succ])
      refine plan_end ?_
      by_cases hkw : kw = w0
      · have HH := Lib.hid (HHIT.out hkw)
        rw [show (kw == w0) = true from beq_iff_eq.2 hkw]
        have q0 := HG1.out.cell 0 rfl
        have qf := HG1.out.free 0
        have HG2 : Hid (Blk (y1.setCell ⟨x0.heap.size, 0, none⟩ (.int .i64 (k : Int))) x0.heap.size 35 #[.int .i64 (k : Int), .int .i64 0, .int .i64 0, .int .i64 0, .int .u64 0, .int .u64 0, .int .u64 0, .int .u64 0, .int .i64 0, .string ⟨#[]⟩, .int .i64 0, .int .i64 0, .int .u64 0]) := Lib.hid (HG1.out.setCell 0 _)
        have HM2 := Lib.hid (HM1.out.setCell ⟨x0.heap.size, 0, none⟩ (.inl rfl) (.int .i64 (k : Int)))
        clear HHIT HMISS hkw ld0
        go_wp2_with fail
        go_roundw
        case rel => exact ⟨k + 1, (k : Int), by omega, by omega, by go_num, by omega, by omega, HH, HG2, HM2⟩
        case measure => simp [intOf]; omega
      · have HH := Lib.hid (HMISS.out hkw)
        rw [show (kw == w0) = false from beq_eq_false_iff_ne.2 hkw]
        clear HHIT HMISS hkw ld0
        go_wp2_with fail
        go_roundw
        case rel => exact ⟨k + 1, K, by omega, by omega, by go_num, by omega, by omega, HH, HG1, HM1⟩
        case measure => simp [intOf]; omega
    · obtain rfl : k = 19 := by omega
      have hf := HI.out.fin hK2
      have he0 := HE0.out
      obtain ⟨hK3, rfl⟩ : 0 < K ∧ v0 = K := by
        rcases hf with ⟨h, _⟩ | ⟨h, h2⟩
        · rw [h] at he0; cases he0
        · rw [h] at he0; injection he0 with he0; exact ⟨h2, he0.symm⟩
      clear HI hf he0 hk1 hk2 hk HE0
      have l1 : World.cell? wr ⟨b, off + 1, none⟩ = some (.string ⟨w1.toArray⟩) := (HM.out.cell (p := ⟨b, off + 1, none⟩) hlt2 (by simp only; omega)).trans (HR2.out 1 _ rfl)
      go_wp2_with (go_at_call 46; refine (C1.out _).mono ?_)
      intro e x1 hpp; unfold IntE at hpp; rw [E1.out] at hpp; obtain ⟨bb, n1, hin, rfl, hv⟩ := hpp
      obtain rfl := hv _ rfl
      have G1 := Lib.hid (HG.out.kept bb)
      have M1 := Lib.hid (HM.out.below bb)
      clear bb hv hin l1 HG HM C1
      have l2 : World.cell? x1 ⟨b, off + 2, none⟩ = some (.string ⟨w2.toArray⟩) := (M1.out.cell (p := ⟨b, off + 2, none⟩) hlt2 (by simp only; omega)).trans (HR2.out 2 _ rfl)
      go_wp2_with (go_at_call 46; refine (C2.out _).mono ?_)
      intro e x2 hpp; unfold IntE at hpp; rw [E2.out] at hpp; obtain ⟨bb, n2, hin, rfl, hv⟩ := hpp
      obtain rfl := hv _ rfl
      have G2 := Lib.hid (G1.out.kept bb)
      have M2 := Lib.hid (M1.out.below bb)
      clear bb hv hin l2 G1 M1 C2
      have q1 := G2.out.cell 1 rfl
      have f1 := G2.out.free 1
      have G3 : Hid (Blk (x2.setCell ⟨x0.heap.size, 1, none⟩ (.int .i64 n1)) x0.heap.size 35 #[.int .i64 v0, .int .i64 n1, .int .i64 0, .int .i64 0, .int .u64 0, .int .u64 0, .int .u64 0, .int .u64 0, .int .i64 0, .string ⟨#[]⟩, .int .i64 0, .int .i64 0, .int .u64 0]) := Lib.hid (G2.out.setCell 1 _)
      have M3 : Hid (Mods (· = x0.heap.size) ((x0.alloc (.cells #[.int .i64 0, .int .i64 0, .int .i64 0, .int .i64 0, .int .u64 0, .int .u64 0, .int .u64 0, .int .u64 0, .int .i64 0, .string ⟨#[]⟩, .int .i64 0, .int .i64 0, .int .u64 0] 35)).setRow x0.heap.size #[.int .i64 0, .int .i64 0, .int .i64 0, .int .i64 0, .int .u64 0, .int .u64 0, .int .u64 0, .int .u64 0, .int .i64 0, .string ⟨#[]⟩, .int .i64 0, .int .i64 0, .int .u64 0]) (x2.setCell ⟨x0.heap.size, 1, none⟩ (.int .i64 n1))) := Lib.hid (M2.out.setCell _ (.inl rfl) _)
      clear G2 M2
      have q2 := G3.out.cell 2 rfl
      have f2 := G3.out.free 2
      have G4 : Hid (Blk ((x2.setCell ⟨x0.heap.size, 1, none⟩ (.int .i64 n1)).setCell ⟨x0.heap.size, 2, none⟩ (.int .i64 n2)) x0.heap.size 35 #[.int .i64 v0, .int .i64 n1, .int .i64 n2, .int .i64 0, .int .u64 0, .int .u64 0, .int .u64 0, .int .u64 0, .int .i64 0, .string ⟨#[]⟩, .int .i64 0, .int .i64 0, .int .u64 0]) := Lib.hid (G3.out.setCell 2 _)
      have M4 : Hid (Mods (· = x0.heap.size) ((x0.alloc (.cells #[.int .i64 0, .int .i64 0, .int .i64 0, .int .i64 0, .int .u64 0, .int .u64 0, .int .u64 0, .int .u64 0, .int .i64 0, .string ⟨#[]⟩, .int .i64 0, .int .i64 0, .int .u64 0] 35)).setRow x0.heap.size #[.int .i64 0, .int .i64 0, .int .i64 0, .int .i64 0, .int .u64 0, .int .u64 0, .int .u64 0, .int .u64 0, .int .i64 0, .string ⟨#[]⟩, .int .i64 0, .int .i64 0, .int .u64 0]) ((x2.setCell ⟨x0.heap.size, 1, none⟩ (.int .i64 n1)).setCell ⟨x0.heap.size, 2, none⟩ (.int .i64 n2))) := Lib.hid (M3.out.setCell _ (.inl rfl) _)
      clear G3 M3
      have l3 : World.cell? ((x2.setCell ⟨x0.heap.size, 1, none⟩ (.int .i64 n1)).setCell ⟨x0.heap.size, 2, none⟩ (.int .i64 n2)) ⟨b, off + 3, none⟩ = some (.string ⟨w3.toArray⟩) := (M4.out.cell (p := ⟨b, off + 3, none⟩) hlt2 (by simp only; omega)).trans (HR2.out 3 _ rfl)
      have lk := G4.out.cell 0 rfl
      go_wp2_with (go_at_call 46; refine (C3.out _).mono ?_)
      intro e x3 hpp; unfold IntE at hpp; rw [E3.out] at hpp; obtain ⟨bb, n3, hin, rfl, hv⟩ := hpp
      obtain rfl := hv _ rfl
      have G5 := Lib.hid (G4.out.kept bb)
      have M5 := Lib.hid (M4.out.below bb)
      clear bb hv hin l3 G4 M4 lk C3
      have q3 := G5.out.cell 3 rfl
      have f3 := G5.out.free 3
      have G6 : Hid (Blk (x3.setCell ⟨x0.heap.size, 3, none⟩ (.int .i64 n3)) x0.heap.size 35 #[.int .i64 v0, .int .i64 n1, .int .i64 n2, .int .i64 n3, .int .u64 0, .int .u64 0, .int .u64 0, .int .u64 0, .int .i64 0, .string ⟨#[]⟩, .int .i64 0, .int .i64 0, .int .u64 0]) := Lib.hid (G5.out.setCell 3 _)
      have M6 : Hid (Mods (· = x0.heap.size) ((x0.alloc (.cells #[.int .i64 0, .int .i64 0, .int .i64 0, .int .i64 0, .int .u64 0, .int .u64 0, .int .u64 0, .int .u64 0, .int .i64 0, .string ⟨#[]⟩, .int .i64 0, .int .i64 0, .int .u64 0] 35)).setRow x0.heap.size #[.int .i64 0, .int .i64 0, .int .i64 0, .int .i64 0, .int .u64 0, .int .u64 0, .int .u64 0, .int .u64 0, .int .i64 0, .string ⟨#[]⟩, .int .i64 0, .int .i64 0, .int .u64 0]) (x3.setCell ⟨x0.heap.size, 3, none⟩ (.int .i64 n3))) := Lib.hid (M5.out.setCell _ (.inl rfl) _)
      clear G5 M5
      have l4 : World.cell? (x3.setCell ⟨x0.heap.size, 3, none⟩ (.int .i64 n3)) ⟨b, off + 4, none⟩ = some (.string ⟨w4.toArray⟩) := (M6.out.cell (p := ⟨b, off + 4, none⟩) hlt2 (by simp only; omega)).trans (HR2.out 4 _ rfl)
      go_wp2_with (go_at_call 47; refine (C4.out _).mono ?_)
      intro e x4 hpp; unfold NumE at hpp; rw [E4.out] at hpp; obtain ⟨bb, n4, hin, rfl, hv⟩ := hpp
      obtain rfl := hv _ rfl
      have G7 := Lib.hid (G6.out.kept bb)
      have M7 := Lib.hid (M6.out.below bb)
      clear bb hv hin l4 G6 M6 C4
      have q4 := G7.out.cell 4 rfl
      have f4 := G7.out.free 4
      have G8 : Hid (Blk (x4.setCell ⟨x0.heap.size, 4, none⟩ (.int .u64 n4)) x0.heap.size 35 #[.int .i64 v0, .int .i64 n1, .int .i64 n2, .int .i64 n3, .int .u64 n4, .int .u64 0, .int .u64 0, .int .u64 0, .int .i64 0, .string ⟨#[]⟩, .int .i64 0, .int .i64 0, .int .u64 0]) := Lib.hid (G7.out.setCell 4 _)
      have M8 : Hid (Mods (· = x0.heap.size) ((x0.alloc (.cells #[.int .i64 0, .int .i64 0, .int .i64 0, .int .i64 0, .int .u64 0, .int .u64 0, .int .u64 0, .int .u64 0, .int .i64 0, .string ⟨#[]⟩, .int .i64 0, .int .i64 0, .int .u64 0] 35)).setRow x0.heap.size #[.int .i64 0, .int .i64 0, .int .i64 0, .int .i64 0, .int .u64 0, .int .u64 0, .int .u64 0, .int .u64 0, .int .i64 0, .string ⟨#[]⟩, .int .i64 0, .int .i64 0, .int .u64 0]) (x4.setCell ⟨x0.heap.size, 4, none⟩ (.int .u64 n4))) := Lib.hid (M7.out.setCell _ (.inl rfl) _)
      clear G7 M7
      have l5 : World.cell? (x4.setCell ⟨x0.heap.size, 4, none⟩ (.int .u64 n4)) ⟨b, off + 5, none⟩ = some (.string ⟨w5.toArray⟩) := (M8.out.cell (p := ⟨b, off + 5, none⟩) hlt2 (by simp only; omega)).trans (HR2.out 5 _ rfl)
      go_wp2_with (go_at_call 47; refine (C5.out _).mono ?_)
      intro e x5 hpp; unfold NumE at hpp; rw [E5.out] at hpp; obtain ⟨bb, n5, hin, rfl, hv⟩ := hpp
      obtain rfl := hv _ rfl
      have G9 := Lib.hid (G8.out.kept bb)
      have M9 := Lib.hid (M8.out.below bb)
      clear bb hv hin l5 G8 M8 C5
      have q5 := G9.out.cell 5 rfl
      have f5 := G9.out.free 5
      have G10 : Hid (Blk (x5.setCell ⟨x0.heap.size, 5, none⟩ (.int .u64 n5)) x0.heap.size 35 #[.int .i64 v0, .int .i64 n1, .int .i64 n2, .int .i64 n3, .int .u64 n4, .int .u64 n5, .int .u64 0, .int .u64 0, .int .i64 0, .string ⟨#[]⟩, .int .i64 0, .int .i64 0, .int .u64 0]) := Lib.hid (G9.out.setCell 5 _)
      have M10 : Hid (Mods (· = x0.heap.size) ((x0.alloc (.cells #[.int .i64 0, .int .i64 0, .int .i64 0, .int .i64 0, .int .u64 0, .int .u64 0, .int .u64 0, .int .u64 0, .int .i64 0, .string ⟨#[]⟩, .int .i64 0, .int .i64 0, .int .u64 0] 35)).setRow x0.heap.size #[.int .i64 0, .int .i64 0, .int .i64 0, .int .i64 0, .int .u64 0, .int .u64 0, .int .u64 0, .int .u64 0, .int .i64 0, .string ⟨#[]⟩, .int .i64 0, .int .i64 0, .int .u64 0]) (x5.setCell ⟨x0.heap.size, 5, none⟩ (.int .u64 n5))) := Lib.hid (M9.out.setCell _ (.inl rfl) _)
      clear G9 M9
      have l6 : World.cell? (x5.setCell ⟨x0.heap.size, 5, none⟩ (.int .u64 n5)) ⟨b, off + 6, none⟩ = some (.string ⟨w6.toArray⟩) := (M10.out.cell (p := ⟨b, off + 6, none⟩) hlt2 (by simp only; omega)).trans (HR2.out 6 _ rfl)
      go_wp2_with (go_at_call 47; refine (C6.out _).mono ?_)
      intro e x6 hpp; unfold NumE at hpp; rw [E6.out] at hpp; obtain ⟨bb, n6, hin, rfl, hv⟩ := hpp
      obtain rfl := hv _ rfl
      have G11 := Lib.hid (G10.out.kept bb)
      have M11 := Lib.hid (M10.out.below bb)
      clear bb hv hin l6 G10 M10 C6
      have q6 := G11.out.cell 6 rfl
      have f6 := G11.out.free 6
      have G12 : Hid (Blk (x6.setCell ⟨x0.heap.size, 6, none⟩ (.int .u64 n6)) x0.heap.size 35 #[.int .i64 v0, .int .i64 n1, .int .i64 n2, .int .i64 n3, .int .u64 n4, .int .u64 n5, .int .u64 n6, .int .u64 0, .int .i64 0, .string ⟨#[]⟩, .int .i64 0, .int .i64 0, .int .u64 0]) := Lib.hid (G11.out.setCell 6 _)
      have M12 : Hid (Mods (· = x0.heap.size) ((x0.alloc (.cells #[.int .i64 0, .int .i64 0, .int .i64 0, .int .i64 0, .int .u64 0, .int .u64 0, .int .u64 0, .int .u64 0, .int .i64 0, .string ⟨#[]⟩, .int .i64 0, .int .i64 0, .int .u64 0] 35)).setRow x0.heap.size #[.int .i64 0, .int .i64 0, .int .i64 0, .int .i64 0, .int .u64 0, .int .u64 0, .int .u64 0, .int .u64 0, .int .i64 0, .string ⟨#[]⟩, .int .i64 0, .int .i64 0, .int .u64 0]) (x6.setCell ⟨x0.heap.size, 6, none⟩ (.int .u64 n6))) := Lib.hid (M11.out.setCell _ (.inl rfl) _)
      clear G11 M11
      have l7 : World.cell? (x6.setCell ⟨x0.heap.size, 6, none⟩ (.int .u64 n6)) ⟨b, off + 7, none⟩ = some (.string ⟨w7.toArray⟩) := (M12.out.cell (p := ⟨b, off + 7, none⟩) hlt2 (by simp only; omega)).trans (HR2.out 7 _ rfl)
      go_wp2_with (go_at_call 47; refine (C7.out _).mono ?_)
      intro e x7 hpp; unfold NumE at hpp; rw [E7.out] at hpp; obtain ⟨bb, n7, hin, rfl, hv⟩ := hpp
      obtain rfl := hv _ rfl
      have G13 := Lib.hid (G12.out.kept bb)
      have M13 := Lib.hid (M12.out.below bb)
      clear bb hv hin l7 G12 M12 C7
      have q7 := G13.out.cell 7 rfl
      have f7 := G13.out.free 7
      have G14 : Hid (Blk (x7.setCell ⟨x0.heap.size, 7, none⟩ (.int .u64 n7)) x0.heap.size 35 #[.int .i64 v0, .int .i64 n1, .int .i64 n2, .int .i64 n3, .int .u64 n4, .int .u64 n5, .int .u64 n6, .int .u64 n7, .int .i64 0, .string ⟨#[]⟩, .int .i64 0, .int .i64 0, .int .u64 0]) := Lib.hid (G13.out.setCell 7 _)
      have M14 : Hid (Mods (· = x0.heap.size) ((x0.alloc (.cells #[.int .i64 0, .int .i64 0, .int .i64 0, .int .i64 0, .int .u64 0, .int .u64 0, .int .u64 0, .int .u64 0, .int .i64 0, .string ⟨#[]⟩, .int .i64 0, .int .i64 0, .int .u64 0] 35)).setRow x0.heap.size #[.int .i64 0, .int .i64 0, .int .i64 0, .int .i64 0, .int .u64 0, .int .u64 0, .int .u64 0, .int .u64 0, .int .i64 0, .string ⟨#[]⟩, .int .i64 0, .int .i64 0, .int .u64 0]) (x7.setCell ⟨x0.heap.size, 7, none⟩ (.int .u64 n7))) := Lib.hid (M13.out.setCell _ (.inl rfl) _)
      clear G13 M13
      have l8 : World.cell? (x7.setCell ⟨x0.heap.size, 7, none⟩ (.int .u64 n7)) ⟨b, off + 8, none⟩ = some (.string ⟨w8.toArray⟩) := (M14.out.cell (p := ⟨b, off + 8, none⟩) hlt2 (by simp only; omega)).trans (HR2.out 8 _ rfl)
      go_wp2_with (go_at_call 46; refine (C8.out _).mono ?_)
      intro e x8 hpp; unfold IntE at hpp; rw [E8.out] at hpp; obtain ⟨bb, n8, hin, rfl, hv⟩ := hpp
      obtain rfl := hv _ rfl
      have G15 := Lib.hid (G14.out.kept bb)
      have M15 := Lib.hid (M14.out.below bb)
      clear bb hv hin l8 G14 M14 C8
      have q8 := G15.out.cell 8 rfl
      have f8 := G15.out.free 8
      have G16 : Hid (Blk (x8.setCell ⟨x0.heap.size, 8, none⟩ (.int .i64 n8)) x0.heap.size 35 #[.int .i64 v0, .int .i64 n1, .int .i64 n2, .int .i64 n3, .int .u64 n4, .int .u64 n5, .int .u64 n6, .int .u64 n7, .int .i64 n8, .string ⟨#[]⟩, .int .i64 0, .int .i64 0, .int .u64 0]) := Lib.hid (G15.out.setCell 8 _)
      have M16 : Hid (Mods (· = x0.heap.size) ((x0.alloc (.cells #[.int .i64 0, .int .i64 0, .int .i64 0, .int .i64 0, .int .u64 0, .int .u64 0, .int .u64 0, .int .u64 0, .int .i64 0, .string ⟨#[]⟩, .int .i64 0, .int .i64 0, .int .u64 0] 35)).setRow x0.heap.size #[.int .i64 0, .int .i64 0, .int .i64 0, .int .i64 0, .int .u64 0, .int .u64 0, .int .u64 0, .int .u64 0, .int .i64 0, .string ⟨#[]⟩, .int .i64 0, .int .i64 0, .int .u64 0]) (x8.setCell ⟨x0.heap.size, 8, none⟩ (.int .i64 n8))) := Lib.hid (M15.out.setCell _ (.inl rfl) _)
      clear G15 M15
      have l9 : World.cell? (x8.setCell ⟨x0.heap.size, 8, none⟩ (.int .i64 n8)) ⟨b, off + 9, none⟩ = some (.string ⟨w9.toArray⟩) := (M16.out.cell (p := ⟨b, off + 9, none⟩) hlt2 (by simp only; omega)).trans (HR2.out 9 _ rfl)
      go_wp2_with (go_at_call 48; refine (C9.out _).mono ?_)
      intro e x9 hpp; unfold KeyE at hpp; rw [E9.out] at hpp; obtain ⟨bb, n9, rfl, hin, hv⟩ := hpp
      obtain rfl := hv _ rfl
      have G17 := Lib.hid (G16.out.kept bb)
      have M17 := Lib.hid (M16.out.below bb)
      clear bb hv hin l9 G16 M16 C9
      have q9 := G17.out.cell 9 rfl
      have f9 := G17.out.free 9
      have G18 : Hid (Blk (x9.setCell ⟨x0.heap.size, 9, none⟩ (.string ⟨n9.toArray⟩)) x0.heap.size 35 #[.int .i64 v0, .int .i64 n1, .int .i64 n2, .int .i64 n3, .int .u64 n4, .int .u64 n5, .int .u64 n6, .int .u64 n7, .int .i64 n8, .string ⟨n9.toArray⟩, .int .i64 0, .int .i64 0, .int .u64 0]) := Lib.hid (G17.out.setCell 9 _)
      have M18 : Hid (Mods (· = x0.heap.size) ((x0.alloc (.cells #[.int .i64 0, .int .i64 0, .int .i64 0, .int .i64 0, .int .u64 0, .int .u64 0, .int .u64 0, .int .u64 0, .int .i64 0, .string ⟨#[]⟩, .int .i64 0, .int .i64 0, .int .u64 0] 35)).setRow x0.heap.size #[.int .i64 0, .int .i64 0, .int .i64 0, .int .i64 0, .int .u64 0, .int .u64 0, .int .u64 0, .int .u64 0, .int .i64 0, .string ⟨#[]⟩, .int .i64 0, .int .i64 0, .int .u64 0]) (x9.setCell ⟨x0.heap.size, 9, none⟩ (.string ⟨n9.toArray⟩))) := Lib.hid (M17.out.setCell _ (.inl rfl) _)
      clear G17 M17
      have l10 : World.cell? (x9.setCell ⟨x0.heap.size, 9, none⟩ (.string ⟨n9.toArray⟩)) ⟨b, off + 10, none⟩ = some (.string ⟨w10.toArray⟩) := (M18.out.cell (p := ⟨b, off + 10, none⟩) hlt2 (by simp only; omega)).trans (HR2.out 10 _ rfl)
      go_wp2_with (go_at_call 46; refine (C10.out _).mono ?_)
      intro e x10 hpp; unfold IntE at hpp; rw [E10.out] at hpp; obtain ⟨bb, n10, hin, rfl, hv⟩ := hpp
      obtain rfl := hv _ rfl
      have G19 := Lib.hid (G18.out.kept bb)
      have M19 := Lib.hid (M18.out.below bb)
      clear bb hv hin l10 G18 M18 C10
      have q10 := G19.out.cell 10 rfl
      have f10 := G19.out.free 10
      have G20 : Hid (Blk (x10.setCell ⟨x0.heap.size, 10, none⟩ (.int .i64 n10)) x0.heap.size 35 #[.int .i64 v0, .int .i64 n1, .int .i64 n2, .int .i64 n3, .int .u64 n4, .int .u64 n5, .int .u64 n6, .int .u64 n7, .int .i64 n8, .string ⟨n9.toArray⟩, .int .i64 n10, .int .i64 0, .int .u64 0]) := Lib.hid (G19.out.setCell 10 _)
      have M20 : Hid (Mods (· = x0.heap.size) ((x0.alloc (.cells #[.int .i64 0, .int .i64 0, .int .i64 0, .int .i64 0, .int .u64 0, .int .u64 0, .int .u64 0, .int .u64 0, .int .i64 0, .string ⟨#[]⟩, .int .i64 0, .int .i64 0, .int .u64 0] 35)).setRow x0.heap.size #[.int .i64 0, .int .i64 0, .int .i64 0, .int .i64 0, .int .u64 0, .int .u64 0, .int .u64 0, .int .u64 0, .int .i64 0, .string ⟨#[]⟩, .int .i64 0, .int .i64 0, .int .u64 0]) (x10.setCell ⟨x0.heap.size, 10, none⟩ (.int .i64 n10))) := Lib.hid (M19.out.setCell _ (.inl rfl) _)
      clear G19 M19
      have l11 : World.cell? (x10.setCell ⟨x0.heap.size, 10, none⟩ (.int .i64 n10)) ⟨b, off + 11, none⟩ = some (.string ⟨w11.toArray⟩) := (M20.out.cell (p := ⟨b, off + 11, none⟩) hlt2 (by simp only; omega)).trans (HR2.out 11 _ rfl)
      go_wp2_with (go_at_call 46; refine (C11.out _).mono ?_)
      intro e x11 hpp; unfold IntE at hpp; rw [E11.out] at hpp; obtain ⟨bb, n11, hin, rfl, hv⟩ := hpp
      obtain rfl := hv _ rfl
      have G21 := Lib.hid (G20.out.kept bb)
      have M21 := Lib.hid (M20.out.below bb)
      clear bb hv hin l11 G20 M20 C11
      have q11 := G21.out.cell 11 rfl
      have f11 := G21.out.free 11
      have G22 : Hid (Blk (x11.setCell ⟨x0.heap.size, 11, none⟩ (.int .i64 n11)) x0.heap.size 35 #[.int .i64 v0, .int .i64 n1, .int .i64 n2, .int .i64 n3, .int .u64 n4, .int .u64 n5, .int .u64 n6, .int .u64 n7, .int .i64 n8, .string ⟨n9.toArray⟩, .int .i64 n10, .int .i64 n11, .int .u64 0]) := Lib.hid (G21.out.setCell 11 _)
      have M22 : Hid (Mods (· = x0.heap.size) ((x0.alloc (.cells #[.int .i64 0, .int .i64 0, .int .i64 0, .int .i64 0, .int .u64 0, .int .u64 0, .int .u64 0, .int .u64 0, .int .i64 0, .string ⟨#[]⟩, .int .i64 0, .int .i64 0, .int .u64 0] 35)).setRow x0.heap.size #[.int .i64 0, .int .i64 0, .int .i64 0, .int .i64 0, .int .u64 0, .int .u64 0, .int .u64 0, .int .u64 0, .int .i64 0, .string ⟨#[]⟩, .int .i64 0, .int .i64 0, .int .u64 0]) (x11.setCell ⟨x0.heap.size, 11, none⟩ (.int .i64 n11))) := Lib.hid (M21.out.setCell _ (.inl rfl) _)
      clear G21 M21
      have l12 : World.cell? (x11.setCell ⟨x0.heap.size, 11, none⟩ (.int .i64 n11)) ⟨b, off + 12, none⟩ = some (.string ⟨w12.toArray⟩) := (M22.out.cell (p := ⟨b, off + 12, none⟩) hlt2 (by simp only; omega)).trans (HR2.out 12 _ rfl)
      go_wp2_with (go_at_call 47; refine (C12.out _).mono ?_)
      intro e x12 hpp; unfold NumE at hpp; rw [E12.out] at hpp; obtain ⟨bb, n12, hin, rfl, hv⟩ := hpp
      obtain rfl := hv _ rfl
      have G23 := Lib.hid (G22.out.kept bb)
      have M23 := Lib.hid (M22.out.below bb)
      clear bb hv hin l12 G22 M22 C12
      have q12 := G23.out.cell 12 rfl
      have f12 := G23.out.free 12
      have G24 : Hid (Blk (x12.setCell ⟨x0.heap.size, 12, none⟩ (.int .u64 n12)) x0.heap.size 35 #[.int .i64 v0, .int .i64 n1, .int .i64 n2, .int .i64 n3, .int .u64 n4, .int .u64 n5, .int .u64 n6, .int .u64 n7, .int .i64 n8, .string ⟨n9.toArray⟩, .int .i64 n10, .int .i64 n11, .int .u64 n12]) := Lib.hid (G23.out.setCell 12 _)
      have M24 : Hid (Mods (· = x0.heap.size) ((x0.alloc (.cells #[.int .i64 0, .int .i64 0, .int .i64 0, .int .i64 0, .int .u64 0, .int .u64 0, .int .u64 0, .int .u64 0, .int .i64 0, .string ⟨#[]⟩, .int .i64 0, .int .i64 0, .int .u64 0] 35)).setRow x0.heap.size #[.int .i64 0, .int .i64 0, .int .i64 0, .int .i64 0, .int .u64 0, .int .u64 0, .int .u64 0, .int .u64 0, .int .i64 0, .string ⟨#[]⟩, .int .i64 0, .int .i64 0, .int .u64 0]) (x12.setCell ⟨x0.heap.size, 12, none⟩ (.int .u64 n12))) := Lib.hid (M23.out.setCell _ (.inl rfl) _)
      clear G23 M23
      have c6 := G24.out.cell 6 rfl
      have c7 := G24.out.cell 7 rfl
      have c8 := G24.out.cell 8 rfl
      have c9 := G24.out.cell 9 rfl
      have c10 := G24.out.cell 10 rfl
      have c11 := G24.out.cell 11 rfl
      have c12 := G24.out.cell 12 rfl
      go_wp2_with (go_at_call 33; refine (CC.out _).mono ?_)
      intro e x13 hpp; unfold CmdE at hpp; obtain ⟨rfl, bb⟩ := hpp
      have G99 := Lib.hid (G24.out.kept bb)
      have M99 := Lib.hid (M24.out.below bb)
      clear bb G24 M24 c6 c7 c8 c9 c10 c11 c12 CC
      have hX := HX2.out.mods M99.out (by omega)
      have hBl := Mods.old HA2.out M99.out HA2.out.size (fun i _ h => by have h : i = x0.heap.size := h; omega)
      obtain ⟨hb3, hx3⟩ := set_in #[.int .i64 0, .int .i64 0, .int .i64 0, .int .i64 0, .int .u64 0, .int .u64 0, .int .u64 0, .int .u64 0, .int .i64 0, .string ⟨#[]⟩, .int .i64 0, .int .i64 0, .int .u64 0] hBl hX (Nat.le_refl _)
      have HB3 := Lib.hid hb3
      have HX3 := Lib.hid hx3
      have HX := Lib.hid hX
      clear hX hBl hb3 hx3
      go_wp2_with (refine wpList_store_row rfl 35 (.tmp 2) (.tmp 190) rfl w.heap.size #[.int .i64 0, .int .i64 0, .int .i64 0, .int .i64 0, .int .u64 0, .int .u64 0, .int .u64 0, .int .u64 0, .int .i64 0, .string ⟨#[]⟩, .int .i64 0, .int .i64 0, .int .u64 0] rfl rfl _ _ HX.out act_size rfl (by simp [Value.oneCell']) ?_)
      have y0 := HX3.out.cell 0 rfl; have y1 := HX3.out.cell 1 rfl; have y2 := HX3.out.cell 2 rfl; have y3 := HX3.out.cell 3 rfl; have y4 := HX3.out.cell 4 rfl; have y5 := HX3.out.cell 5 rfl; have y6 := HX3.out.cell 6 rfl; have y7 := HX3.out.cell 7 rfl; have y8 := HX3.out.cell 8 rfl; have y9 := HX3.out.cell 9 rfl; have y10 := HX3.out.cell 10 rfl; have y11 := HX3.out.cell 11 rfl; have y12 := HX3.out.cell 12 rfl
      refine bodyPost_ret (v := .tuple #[.agg #[.int .i64 0, .int .i64 0, .int .i64 0, .int .i64 0, .int .u64 0, .int .u64 0, .int .u64 0, .int .u64 0, .int .i64 0, .string ⟨#[]⟩, .int .i64 0, .int .i64 0, .int .u64 0], .bool false]) (by simp [results, Tryd.results15, go_sem, y0, y1, y2, y3, y4, y5, y6, y7, y8, y9, y10, y11, y12]) rfl ?_
      exact refToActE_no HRES.out HB3.out


set_option maxRecDepth 20000 in
set_option maxHeartbeats 8000000 in
theorem refToAct_Y (s : List UInt8) (hs : s.length ≤ 4294967280) {w0 w1 w2 w3 w4 w5 w6 w7 w8 w9 w10 w11 w12 : List UInt8} (hp : parts 32 s = [w0, w1, w2, w3, w4, w5, w6, w7, w8, w9, w10, w11, w12]) {v0 v1 v2 v3 v4 v5 v6 v7 v8 v10 v11 v12 : Int} {v9 : List UInt8} (e0 : kindOf w0 = some v0) (e1 : pint w1 = some v1) (e2 : pint w2 = some v2) (e3 : pint w3 = some v3) (e4 : pnum w4 = some v4) (e5 : pnum w5 = some v5) (e6 : pnum w6 = some v6) (e7 : pnum w7 = some v7) (e8 : pint w8 = some v8) (e9 : pkey w9 = some v9) (e10 : pint w10 = some v10) (e11 : pint w11 = some v11) (e12 : pnum w12 = some v12) (ho : Cm.ok ⟨v6, v7, v8, v9, v10, v11, v12⟩ = true) (hw : Cm.wf ⟨v6, v7, v8, v9, v10, v11, v12⟩) (w : World) : Calls Tryd.prog 15 #[.string ⟨s.toArray⟩] w (RefToActE s w) := by
  have HRES := Lib.hid (readAct_give hp e0 e1 e2 e3 e4 e5 e6 e7 e8 e9 e10 e11 e12 ho)
  have hlen : ∀ x ∈ parts 32 s, x.length ≤ 140737488351232 := fun x hx => by have := parts_len 32 s x hx; omega
  have HP := Lib.hid hp
  rw [hp] at hlen
  have CW := Lib.hid (refWords s hs)
  have C1 := Lib.hid (refInt w1 (hlen _ (by simp)))
  have E1 := Lib.hid e1
  have C2 := Lib.hid (refInt w2 (hlen _ (by simp)))
  have E2 := Lib.hid e2
  have C3 := Lib.hid (refInt w3 (hlen _ (by simp)))
  have E3 := Lib.hid e3
  have C4 := Lib.hid (refNum w4 (hlen _ (by simp)))
  have E4 := Lib.hid e4
  have C5 := Lib.hid (refNum w5 (hlen _ (by simp)))
  have E5 := Lib.hid e5
  have C6 := Lib.hid (refNum w6 (hlen _ (by simp)))
  have E6 := Lib.hid e6
  have C7 := Lib.hid (refNum w7 (hlen _ (by simp)))
  have E7 := Lib.hid e7
  have C8 := Lib.hid (refInt w8 (hlen _ (by simp)))
  have E8 := Lib.hid e8
  have C9 := Lib.hid (refKey w9 (hlen _ (by simp)))
  have E9 := Lib.hid e9
  have C10 := Lib.hid (refInt w10 (hlen _ (by simp)))
  have E10 := Lib.hid e10
  have C11 := Lib.hid (refInt w11 (hlen _ (by simp)))
  have E11 := Lib.hid e11
  have C12 := Lib.hid (refNum w12 (hlen _ (by simp)))
  have E12 := Lib.hid e12
  have CC := Lib.hid (fun W => cmdE_of (refCommanded ⟨v6, v7, v8, v9, v10, v11, v12⟩ hw W))
  rw [ho] at CC
  unfold Cm.cells at CC
  have HE0 := Lib.hid e0
  clear hp hlen e0 e1 e2 e3 e4 e5 e6 e7 e8 e9 e10 e11 e12 ho hw
  have hb0 : Below w.heap.size w (w.alloc (.cells #[.int .i64 0, .int .i64 0, .int .i64 0, .int .i64 0, .int .u64 0, .int .u64 0, .int .u64 0, .int .u64 0, .int .i64 0, .string ⟨#[]⟩, .int .i64 0, .int .i64 0, .int .u64 0] 35)) := (Below.refl _ _).alloc (Nat.le_refl _) _
  have HA0 := Lib.hid hb0
  have HX0 := Lib.hid (Blk.new w #[.int .i64 0, .int .i64 0, .int .i64 0, .int .i64 0, .int .u64 0, .int .u64 0, .int .u64 0, .int .u64 0, .int .i64 0, .string ⟨#[]⟩, .int .i64 0, .int .i64 0, .int .u64 0] 35)
  clear hb0
  go_enter Tryd.func15, Tryd.ntmps15
  go_wp2_with (go_at_call 45; refine (CW.out _).mono ?_)
  intro e x0 hpp; unfold WordsE at hpp; rw [HP.out] at hpp; obtain ⟨hb, A, c, rfl, hr⟩ := hpp
  obtain ⟨b, off, rfl, hlt, hc⟩ := hr.at_ (by simp [svals])
  have HA1 := Lib.hid (HA0.out.trans (hb.mono HA0.out.size))
  have HX1 := Lib.hid (HX0.out.kept hb)
  have hlt0 := HX1.out.lt
  have HN := Lib.hid (Blk.new x0 #[.int .i64 0, .int .i64 0, .int .i64 0, .int .i64 0, .int .u64 0, .int .u64 0, .int .u64 0, .int .u64 0, .int .i64 0, .string ⟨#[]⟩, .int .i64 0, .int .i64 0, .int .u64 0] 35)
  obtain ⟨hb2, hx2⟩ := row_in w x0 #[.int .i64 0, .int .i64 0, .int .i64 0, .int .i64 0, .int .u64 0, .int .u64 0, .int .u64 0, .int .u64 0, .int .i64 0, .string ⟨#[]⟩, .int .i64 0, .int .i64 0, .int .u64 0] #[.int .i64 0, .int .i64 0, .int .i64 0, .int .i64 0, .int .u64 0, .int .u64 0, .int .u64 0, .int .u64 0, .int .i64 0, .string ⟨#[]⟩, .int .i64 0, .int .i64 0, .int .u64 0] 35 HA1.out
  have HA2 := Lib.hid hb2
  have HG2 := Lib.hid hx2
  have HX2 : Hid (Blk ((x0.alloc (.cells #[.int .i64 0, .int .i64 0, .int .i64 0, .int .i64 0, .int .u64 0, .int .u64 0, .int .u64 0, .int .u64 0, .int .i64 0, .string ⟨#[]⟩, .int .i64 0, .int .i64 0, .int .u64 0] 35)).setRow x0.heap.size #[.int .i64 0, .int .i64 0, .int .i64 0, .int .i64 0, .int .u64 0, .int .u64 0, .int .u64 0, .int .u64 0, .int .i64 0, .string ⟨#[]⟩, .int .i64 0, .int .i64 0, .int .u64 0]) w.heap.size 35 #[.int .i64 0, .int .i64 0, .int .i64 0, .int .i64 0, .int .u64 0, .int .u64 0, .int .u64 0, .int .u64 0, .int .i64 0, .string ⟨#[]⟩, .int .i64 0, .int .i64 0, .int .u64 0]) := Lib.hid ((HX1.out.kept ((Below.refl _ _).alloc (Nat.le_refl _) _)).setRow_other (k := x0.heap.size) #[.int .i64 0, .int .i64 0, .int .i64 0, .int .i64 0, .int .u64 0, .int .u64 0, .int .u64 0, .int .u64 0, .int .i64 0, .string ⟨#[]⟩, .int .i64 0, .int .i64 0, .int .u64 0] (by omega))
  have HR2 : Hid (∀ j v, (svals [w0, w1, w2, w3, w4, w5, w6, w7, w8, w9, w10, w11, w12])[j]? = some v → World.cell? ((x0.alloc (.cells #[.int .i64 0, .int .i64 0, .int .i64 0, .int .i64 0, .int .u64 0, .int .u64 0, .int .u64 0, .int .u64 0, .int .i64 0, .string ⟨#[]⟩, .int .i64 0, .int .i64 0, .int .u64 0] 35)).setRow x0.heap.size #[.int .i64 0, .int .i64 0, .int .i64 0, .int .i64 0, .int .u64 0, .int .u64 0, .int .u64 0, .int .u64 0, .int .i64 0, .string ⟨#[]⟩, .int .i64 0, .int .i64 0, .int .u64 0]) ⟨b, off + j, none⟩ = some v) := Lib.hid fun j v hv => by
    rw [cell_setRow_other _ _ _ _ (by simp only; omega), ((Below.refl x0.heap.size x0).alloc (Nat.le_refl _) _).cell (p := ⟨b, off + j, none⟩) hlt]
    exact hc j v hv
  have hlt2 : b < (((x0.alloc (.cells #[.int .i64 0, .int .i64 0, .int .i64 0, .int .i64 0, .int .u64 0, .int .u64 0, .int .u64 0, .int .u64 0, .int .i64 0, .string ⟨#[]⟩, .int .i64 0, .int .i64 0, .int .u64 0] 35)).setRow x0.heap.size #[.int .i64 0, .int .i64 0, .int .i64 0, .int .i64 0, .int .u64 0, .int .u64 0, .int .u64 0, .int .u64 0, .int .i64 0, .string ⟨#[]⟩, .int .i64 0, .int .i64 0, .int .u64 0])).heap.size := by simp; omega
  clear hb hr hc hb2 hx2 HA0 HA1 HX0 HX1 CW
  go_wp2_with (refine wpList_store_row rfl 35 (.tmp 5) (.tmp 14) rfl x0.heap.size #[.int .i64 0, .int .i64 0, .int .i64 0, .int .i64 0, .int .u64 0, .int .u64 0, .int .u64 0, .int .u64 0, .int .i64 0, .string ⟨#[]⟩, .int .i64 0, .int .i64 0, .int .u64 0] rfl rfl _ _ HN.out act_size rfl (by simp [Value.oneCell']) ?_)
  go_loopw [6] (fun i wr => ∃ (k : Nat) (K : Int), 1 ≤ k ∧ k ≤ 19 ∧ i = .int .i64 (k : Int) ∧ 0 ≤ K ∧ K ≤ 18 ∧ Hid (KdInv w0 k K) ∧ Hid (Blk wr x0.heap.size 35 #[.int .i64 K, .int .i64 0, .int .i64 0, .int .i64 0, .int .u64 0, .int .u64 0, .int .u64 0, .int .u64 0, .int .i64 0, .string ⟨#[]⟩, .int .i64 0, .int .i64 0, .int .u64 0]) ∧ Hid (Mods (· = x0.heap.size) ((x0.alloc (.cells #[.int .i64 0, .int .i64 0, .int .i64 0, .int .i64 0, .int .u64 0, .int .u64 0, .int .u64 0, .int .u64 0, .int .i64 0, .string ⟨#[]⟩, .int .i64 0, .int .i64 0, .int .u64 0] 35)).setRow x0.heap.size #[.int .i64 0, .int .i64 0, .int .i64 0, .int .i64 0, .int .u64 0, .int .u64 0, .int .u64 0, .int .u64 0, .int .i64 0, .string ⟨#[]⟩, .int .i64 0, .int .i64 0, .int .u64 0]) wr)) (fun i _ => 19 - (intOf i).toNat)
  case atStart => exact ⟨1, 0, by omega, by omega, rfl, by omega, by omega, Lib.hid (KdInv.start _), HG2, Lib.hid (Mods.refl _ _)⟩
  case round =>
    obtain ⟨k, K, hk1, hk2, rfl, hK1, hK2, HI, HG, HM⟩ := hrel
    by_cases hk : k ≤ 18
    · have hgl := HG.out.lt
      have WC := Lib.hid (refWord (k : Int) (by omega) (by omega))
      have HW : Hid (wordOf (k : Int) = kindWord k) := Lib.hid (by unfold wordOf; rw [if_pos ⟨by omega, by omega⟩]; rfl)
      rw [HW.out] at WC
      have HHIT := Lib.hid (fun h => KdInv.hit (s := w0) (k := k) h hk1)
      have HMISS := Lib.hid (fun h => HI.out.miss h)
      have h0 : World.cell? wr ⟨b, off, none⟩ = some (.string ⟨w0.toArray⟩) := (HM.out.cell (p := ⟨b, off, none⟩) hlt2 (by simp only; omega)).trans (HR2.out 0 _ rfl)
      have hbl : b < wr.heap.size := Nat.lt_of_lt_of_le hlt2 HM.out.size
      generalize kindWord k = kw at *
      clear HI HW
      go_wp2_with fail
      refine wp_region_plan_gen (by kernel_rfl) [(0, true), (2, true), (3, true), (4, true), (1, false), (5, true)] (by kernel_rfl) (by kernel_rfl) (by decide) ?_
      intro y0 hy0
      have B0 : Hid (Below wr.heap.size wr y0) := Lib.hid (by rw [hy0]; exact (Below.refl _ _).drew)
      have ld0 : ∀ w', Ext y0 w' → w'.cell? ⟨b, off, none⟩ = some (.string ⟨w0.toArray⟩) := fun w' hw => (hw.cell (by rw [hy0]; simpa using hbl)).trans (by rw [hy0]; simpa using h0)
      clear hy0
      iterate 4 (refine plan_pure (v := ?_) rfl (by rfl) (fun w' hw' => ?_) ?_; rotate_left; (focus (simp only [List.getElem_toArray, List.getElem_cons_succ, List.getElem_cons_zero]; go_simp; try with_reducible rfl)); try simp only [List.getElem_toArray, List.getElem_cons_succ, List.getElem_cons_zero, Act.put, List.setIfInBounds_toArray, List.set_cons_zero, List.set_cons_succ])
      refine plan_call rfl (by rfl) (fun Q hQ => ?_)
      go_simp
      refine (WC.out y0).mono ?_
      rintro e y1 ⟨rfl, hby⟩
      refine hQ _ _ hby ?_
      clear hQ Q
      have B1 := Lib.hid (B0.out.trans (hby.mono B0.out.size))
      have HG1 := Lib.hid (HG.out.kept B1.out)
      have HM1 := Lib.hid (HM.out.below B1.out)
      clear hby
      try simp only [List.getElem_toArray, List.getElem_cons_succ, List.getElem_cons_zero, Act.put, List.setIfInBounds_toArray, List.set_cons_zero, List.set_cons_succ]
      iterate 1 (refine plan_pure (v := ?_) rfl (by rfl) (fun w' hw' => ?_) ?_; rotate_left; (focus (simp only [List.getElem_toArray, List.getElem_cons_succ, List.getElem_cons_zero]; go_simp; try with_reducible rfl)); try simp only [List.getElem_toArray, List.getElem_cons_succ, List.getElem_cons_zero, Act.put, List.setIfInBounds_toArray, List.set_cons_zero, List.set_cons_succ])
      refine plan_end ?_
      by_cases hkw : kw = w0
      · have HH := Lib.hid (HHIT.out hkw)
        rw [show (kw == w0) = true from beq_iff_eq.2 hkw]
        have q0 := HG1.out.cell 0 rfl
        have qf := HG1.out.free 0
        have HG2 : Hid (Blk (y1.setCell ⟨x0.heap.size, 0, none⟩ (.int .i64 (k : Int))) x0.heap.size 35 #[.int .i64 (k : Int), .int .i64 0, .int .i64 0, .int .i64 0, .int .u64 0, .int .u64 0, .int .u64 0, .int .u64 0, .int .i64 0, .string ⟨#[]⟩, .int .i64 0, .int .i64 0, .int .u64 0]) := Lib.hid (HG1.out.setCell 0 _)
        have HM2 := Lib.hid (HM1.out.setCell ⟨x0.heap.size, 0, none⟩ (.inl rfl) (.int .i64 (k : Int)))
        clear HHIT HMISS hkw ld0
        go_wp2_with fail
        go_roundw
        case rel => exact ⟨k + 1, (k : Int), by omega, by omega, by go_num, by omega, by omega, HH, HG2, HM2⟩
        case measure => simp [intOf]; omega
      · have HH := Lib.hid (HMISS.out hkw)
        rw [show (kw == w0) = false from beq_eq_false_iff_ne.2 hkw]
        clear HHIT HMISS hkw ld0
        go_wp2_with fail
        go_roundw
        case rel => exact ⟨k + 1, K, by omega, by omega, by go_num, by omega, by omega, HH, HG1, HM1⟩
        case measure => simp [intOf]; omega
    · obtain rfl : k = 19 := by omega
      have hf := HI.out.fin hK2
      have he0 := HE0.out
      obtain ⟨hK3, rfl⟩ : 0 < K ∧ v0 = K := by
        rcases hf with ⟨h, _⟩ | ⟨h, h2⟩
        · rw [h] at he0; cases he0
        · rw [h] at he0; injection he0 with he0; exact ⟨h2, he0.symm⟩
      clear HI hf he0 hk1 hk2 hk HE0
      have l1 : World.cell? wr ⟨b, off + 1, none⟩ = some (.string ⟨w1.toArray⟩) := (HM.out.cell (p := ⟨b, off + 1, none⟩) hlt2 (by simp only; omega)).trans (HR2.out 1 _ rfl)
      go_wp2_with (go_at_call 46; refine (C1.out _).mono ?_)
      intro e x1 hpp; unfold IntE at hpp; rw [E1.out] at hpp; obtain ⟨bb, n1, hin, rfl, hv⟩ := hpp
      obtain rfl := hv _ rfl
      have G1 := Lib.hid (HG.out.kept bb)
      have M1 := Lib.hid (HM.out.below bb)
      clear bb hv hin l1 HG HM C1
      have l2 : World.cell? x1 ⟨b, off + 2, none⟩ = some (.string ⟨w2.toArray⟩) := (M1.out.cell (p := ⟨b, off + 2, none⟩) hlt2 (by simp only; omega)).trans (HR2.out 2 _ rfl)
      go_wp2_with (go_at_call 46; refine (C2.out _).mono ?_)
      intro e x2 hpp; unfold IntE at hpp; rw [E2.out] at hpp; obtain ⟨bb, n2, hin, rfl, hv⟩ := hpp
      obtain rfl := hv _ rfl
      have G2 := Lib.hid (G1.out.kept bb)
      have M2 := Lib.hid (M1.out.below bb)
      clear bb hv hin l2 G1 M1 C2
      have q1 := G2.out.cell 1 rfl
      have f1 := G2.out.free 1
      have G3 : Hid (Blk (x2.setCell ⟨x0.heap.size, 1, none⟩ (.int .i64 n1)) x0.heap.size 35 #[.int .i64 v0, .int .i64 n1, .int .i64 0, .int .i64 0, .int .u64 0, .int .u64 0, .int .u64 0, .int .u64 0, .int .i64 0, .string ⟨#[]⟩, .int .i64 0, .int .i64 0, .int .u64 0]) := Lib.hid (G2.out.setCell 1 _)
      have M3 : Hid (Mods (· = x0.heap.size) ((x0.alloc (.cells #[.int .i64 0, .int .i64 0, .int .i64 0, .int .i64 0, .int .u64 0, .int .u64 0, .int .u64 0, .int .u64 0, .int .i64 0, .string ⟨#[]⟩, .int .i64 0, .int .i64 0, .int .u64 0] 35)).setRow x0.heap.size #[.int .i64 0, .int .i64 0, .int .i64 0, .int .i64 0, .int .u64 0, .int .u64 0, .int .u64 0, .int .u64 0, .int .i64 0, .string ⟨#[]⟩, .int .i64 0, .int .i64 0, .int .u64 0]) (x2.setCell ⟨x0.heap.size, 1, none⟩ (.int .i64 n1))) := Lib.hid (M2.out.setCell _ (.inl rfl) _)
      clear G2 M2
      have q2 := G3.out.cell 2 rfl
      have f2 := G3.out.free 2
      have G4 : Hid (Blk ((x2.setCell ⟨x0.heap.size, 1, none⟩ (.int .i64 n1)).setCell ⟨x0.heap.size, 2, none⟩ (.int .i64 n2)) x0.heap.size 35 #[.int .i64 v0, .int .i64 n1, .int .i64 n2, .int .i64 0, .int .u64 0, .int .u64 0, .int .u64 0, .int .u64 0, .int .i64 0, .string ⟨#[]⟩, .int .i64 0, .int .i64 0, .int .u64 0]) := Lib.hid (G3.out.setCell 2 _)
      have M4 : Hid (Mods (· = x0.heap.size) ((x0.alloc (.cells #[.int .i64 0, .int .i64 0, .int .i64 0, .int .i64 0, .int .u64 0, .int .u64 0, .int .u64 0, .int .u64 0, .int .i64 0, .string ⟨#[]⟩, .int .i64 0, .int .i64 0, .int .u64 0] 35)).setRow x0.heap.size #[.int .i64 0, .int .i64 0, .int .i64 0, .int .i64 0, .int .u64 0, .int .u64 0, .int .u64 0, .int .u64 0, .int .i64 0, .string ⟨#[]⟩, .int .i64 0, .int .i64 0, .int .u64 0]) ((x2.setCell ⟨x0.heap.size, 1, none⟩ (.int .i64 n1)).setCell ⟨x0.heap.size, 2, none⟩ (.int .i64 n2))) := Lib.hid (M3.out.setCell _ (.inl rfl) _)
      clear G3 M3
      have l3 : World.cell? ((x2.setCell ⟨x0.heap.size, 1, none⟩ (.int .i64 n1)).setCell ⟨x0.heap.size, 2, none⟩ (.int .i64 n2)) ⟨b, off + 3, none⟩ = some (.string ⟨w3.toArray⟩) := (M4.out.cell (p := ⟨b, off + 3, none⟩) hlt2 (by simp only; omega)).trans (HR2.out 3 _ rfl)
      have lk := G4.out.cell 0 rfl
      go_wp2_with (go_at_call 46; refine (C3.out _).mono ?_)
      intro e x3 hpp; unfold IntE at hpp; rw [E3.out] at hpp; obtain ⟨bb, n3, hin, rfl, hv⟩ := hpp
      obtain rfl := hv _ rfl
      have G5 := Lib.hid (G4.out.kept bb)
      have M5 := Lib.hid (M4.out.below bb)
      clear bb hv hin l3 G4 M4 lk C3
      have q3 := G5.out.cell 3 rfl
      have f3 := G5.out.free 3
      have G6 : Hid (Blk (x3.setCell ⟨x0.heap.size, 3, none⟩ (.int .i64 n3)) x0.heap.size 35 #[.int .i64 v0, .int .i64 n1, .int .i64 n2, .int .i64 n3, .int .u64 0, .int .u64 0, .int .u64 0, .int .u64 0, .int .i64 0, .string ⟨#[]⟩, .int .i64 0, .int .i64 0, .int .u64 0]) := Lib.hid (G5.out.setCell 3 _)
      have M6 : Hid (Mods (· = x0.heap.size) ((x0.alloc (.cells #[.int .i64 0, .int .i64 0, .int .i64 0, .int .i64 0, .int .u64 0, .int .u64 0, .int .u64 0, .int .u64 0, .int .i64 0, .string ⟨#[]⟩, .int .i64 0, .int .i64 0, .int .u64 0] 35)).setRow x0.heap.size #[.int .i64 0, .int .i64 0, .int .i64 0, .int .i64 0, .int .u64 0, .int .u64 0, .int .u64 0, .int .u64 0, .int .i64 0, .string ⟨#[]⟩, .int .i64 0, .int .i64 0, .int .u64 0]) (x3.setCell ⟨x0.heap.size, 3, none⟩ (.int .i64 n3))) := Lib.hid (M5.out.setCell _ (.inl rfl) _)
      clear G5 M5
      have l4 : World.cell? (x3.setCell ⟨x0.heap.size, 3, none⟩ (.int .i64 n3)) ⟨b, off + 4, none⟩ = some (.string ⟨w4.toArray⟩) := (M6.out.cell (p := ⟨b, off + 4, none⟩) hlt2 (by simp only; omega)).trans (HR2.out 4 _ rfl)
      go_wp2_with (go_at_call 47; refine (C4.out _).mono ?_)
      intro e x4 hpp; unfold NumE at hpp; rw [E4.out] at hpp; obtain ⟨bb, n4, hin, rfl, hv⟩ := hpp
      obtain rfl := hv _ rfl
      have G7 := Lib.hid (G6.out.kept bb)
      have M7 := Lib.hid (M6.out.below bb)
      clear bb hv hin l4 G6 M6 C4
      have q4 := G7.out.cell 4 rfl
      have f4 := G7.out.free 4
      have G8 : Hid (Blk (x4.setCell ⟨x0.heap.size, 4, none⟩ (.int .u64 n4)) x0.heap.size 35 #[.int .i64 v0, .int .i64 n1, .int .i64 n2, .int .i64 n3, .int .u64 n4, .int .u64 0, .int .u64 0, .int .u64 0, .int .i64 0, .string ⟨#[]⟩, .int .i64 0, .int .i64 0, .int .u64 0]) := Lib.hid (G7.out.setCell 4 _)
      have M8 : Hid (Mods (· = x0.heap.size) ((x0.alloc (.cells #[.int .i64 0, .int .i64 0, .int .i64 0, .int .i64 0, .int .u64 0, .int .u64 0, .int .u64 0, .int .u64 0, .int .i64 0, .string ⟨#[]⟩, .int .i64 0, .int .i64 0, .int .u64 0] 35)).setRow x0.heap.size #[.int .i64 0, .int .i64 0, .int .i64 0, .int .i64 0, .int .u64 0, .int .u64 0, .int .u64 0, .int .u64 0, .int .i64 0, .string ⟨#[]⟩, .int .i64 0, .int .i64 0, .int .u64 0]) (x4.setCell ⟨x0.heap.size, 4, none⟩ (.int .u64 n4))) := Lib.hid (M7.out.setCell _ (.inl rfl) _)
      clear G7 M7
      have l5 : World.cell? (x4.setCell ⟨x0.heap.size, 4, none⟩ (.int .u64 n4)) ⟨b, off + 5, none⟩ = some (.string ⟨w5.toArray⟩) := (M8.out.cell (p := ⟨b, off + 5, none⟩) hlt2 (by simp only; omega)).trans (HR2.out 5 _ rfl)
      go_wp2_with (go_at_call 47; refine (C5.out _).mono ?_)
      intro e x5 hpp; unfold NumE at hpp; rw [E5.out] at hpp; obtain ⟨bb, n5, hin, rfl, hv⟩ := hpp
      obtain rfl := hv _ rfl
      have G9 := Lib.hid (G8.out.kept bb)
      have M9 := Lib.hid (M8.out.below bb)
      clear bb hv hin l5 G8 M8 C5
      have q5 := G9.out.cell 5 rfl
      have f5 := G9.out.free 5
      have G10 : Hid (Blk (x5.setCell ⟨x0.heap.size, 5, none⟩ (.int .u64 n5)) x0.heap.size 35 #[.int .i64 v0, .int .i64 n1, .int .i64 n2, .int .i64 n3, .int .u64 n4, .int .u64 n5, .int .u64 0, .int .u64 0, .int .i64 0, .string ⟨#[]⟩, .int .i64 0, .int .i64 0, .int .u64 0]) := Lib.hid (G9.out.setCell 5 _)
      have M10 : Hid (Mods (· = x0.heap.size) ((x0.alloc (.cells #[.int .i64 0, .int .i64 0, .int .i64 0, .int .i64 0, .int .u64 0, .int .u64 0, .int .u64 0, .int .u64 0, .int .i64 0, .string ⟨#[]⟩, .int .i64 0, .int .i64 0, .int .u64 0] 35)).setRow x0.heap.size #[.int .i64 0, .int .i64 0, .int .i64 0, .int .i64 0, .int .u64 0, .int .u64 0, .int .u64 0, .int .u64 0, .int .i64 0, .string ⟨#[]⟩, .int .i64 0, .int .i64 0, .int .u64 0]) (x5.setCell ⟨x0.heap.size, 5, none⟩ (.int .u64 n5))) := Lib.hid (M9.out.setCell _ (.inl rfl) _)
      clear G9 M9
      have l6 : World.cell? (x5.setCell ⟨x0.heap.size, 5, none⟩ (.int .u64 n5)) ⟨b, off + 6, none⟩ = some (.string ⟨w6.toArray⟩) := (M10.out.cell (p := ⟨b, off + 6, none⟩) hlt2 (by simp only; omega)).trans (HR2.out 6 _ rfl)
      go_wp2_with (go_at_call 47; refine (C6.out _).mono ?_)
      intro e x6 hpp; unfold NumE at hpp; rw [E6.out] at hpp; obtain ⟨bb, n6, hin, rfl, hv⟩ := hpp
      obtain rfl := hv _ rfl
      have G11 := Lib.hid (G10.out.kept bb)
      have M11 := Lib.hid (M10.out.below bb)
      clear bb hv hin l6 G10 M10 C6
      have q6 := G11.out.cell 6 rfl
      have f6 := G11.out.free 6
      have G12 : Hid (Blk (x6.setCell ⟨x0.heap.size, 6, none⟩ (.int .u64 n6)) x0.heap.size 35 #[.int .i64 v0, .int .i64 n1, .int .i64 n2, .int .i64 n3, .int .u64 n4, .int .u64 n5, .int .u64 n6, .int .u64 0, .int .i64 0, .string ⟨#[]⟩, .int .i64 0, .int .i64 0, .int .u64 0]) := Lib.hid (G11.out.setCell 6 _)
      have M12 : Hid (Mods (· = x0.heap.size) ((x0.alloc (.cells #[.int .i64 0, .int .i64 0, .int .i64 0, .int .i64 0, .int .u64 0, .int .u64 0, .int .u64 0, .int .u64 0, .int .i64 0, .string ⟨#[]⟩, .int .i64 0, .int .i64 0, .int .u64 0] 35)).setRow x0.heap.size #[.int .i64 0, .int .i64 0, .int .i64 0, .int .i64 0, .int .u64 0, .int .u64 0, .int .u64 0, .int .u64 0, .int .i64 0, .string ⟨#[]⟩, .int .i64 0, .int .i64 0, .int .u64 0]) (x6.setCell ⟨x0.heap.size, 6, none⟩ (.int .u64 n6))) := Lib.hid (M11.out.setCell _ (.inl rfl) _)
      clear G11 M11
      have l7 : World.cell? (x6.setCell ⟨x0.heap.size, 6, none⟩ (.int .u64 n6)) ⟨b, off + 7, none⟩ = some (.string ⟨w7.toArray⟩) := (M12.out.cell (p := ⟨b, off + 7, none⟩) hlt2 (by simp only; omega)).trans (HR2.out 7 _ rfl)
      go_wp2_with (go_at_call 47; refine (C7.out _).mono ?_)
      intro e x7 hpp; unfold NumE at hpp; rw [E7.out] at hpp; obtain ⟨bb, n7, hin, rfl, hv⟩ := hpp
      obtain rfl := hv _ rfl
      have G13 := Lib.hid (G12.out.kept bb)
      have M13 := Lib.hid (M12.out.below bb)
      clear bb hv hin l7 G12 M12 C7
      have q7 := G13.out.cell 7 rfl
      have f7 := G13.out.free 7
      have G14 : Hid (Blk (x7.setCell ⟨x0.heap.size, 7, none⟩ (.int .u64 n7)) x0.heap.size 35 #[.int .i64 v0, .int .i64 n1, .int .i64 n2, .int .i64 n3, .int .u64 n4, .int .u64 n5, .int .u64 n6, .int .u64 n7, .int .i64 0, .string ⟨#[]⟩, .int .i64 0, .int .i64 0, .int .u64 0]) := Lib.hid (G13.out.setCell 7 _)
      have M14 : Hid (Mods (· = x0.heap.size) ((x0.alloc (.cells #[.int .i64 0, .int .i64 0, .int .i64 0, .int .i64 0, .int .u64 0, .int .u64 0, .int .u64 0, .int .u64 0, .int .i64 0, .string ⟨#[]⟩, .int .i64 0, .int .i64 0, .int .u64 0] 35)).setRow x0.heap.size #[.int .i64 0, .int .i64 0, .int .i64 0, .int .i64 0, .int .u64 0, .int .u64 0, .int .u64 0, .int .u64 0, .int .i64 0, .string ⟨#[]⟩, .int .i64 0, .int .i64 0, .int .u64 0]) (x7.setCell ⟨x0.heap.size, 7, none⟩ (.int .u64 n7))) := Lib.hid (M13.out.setCell _ (.inl rfl) _)
      clear G13 M13
      have l8 : World.cell? (x7.setCell ⟨x0.heap.size, 7, none⟩ (.int .u64 n7)) ⟨b, off + 8, none⟩ = some (.string ⟨w8.toArray⟩) := (M14.out.cell (p := ⟨b, off + 8, none⟩) hlt2 (by simp only; omega)).trans (HR2.out 8 _ rfl)
      go_wp2_with (go_at_call 46; refine (C8.out _).mono ?_)
      intro e x8 hpp; unfold IntE at hpp; rw [E8.out] at hpp; obtain ⟨bb, n8, hin, rfl, hv⟩ := hpp
      obtain rfl := hv _ rfl
      have G15 := Lib.hid (G14.out.kept bb)
      have M15 := Lib.hid (M14.out.below bb)
      clear bb hv hin l8 G14 M14 C8
      have q8 := G15.out.cell 8 rfl
      have f8 := G15.out.free 8
      have G16 : Hid (Blk (x8.setCell ⟨x0.heap.size, 8, none⟩ (.int .i64 n8)) x0.heap.size 35 #[.int .i64 v0, .int .i64 n1, .int .i64 n2, .int .i64 n3, .int .u64 n4, .int .u64 n5, .int .u64 n6, .int .u64 n7, .int .i64 n8, .string ⟨#[]⟩, .int .i64 0, .int .i64 0, .int .u64 0]) := Lib.hid (G15.out.setCell 8 _)
      have M16 : Hid (Mods (· = x0.heap.size) ((x0.alloc (.cells #[.int .i64 0, .int .i64 0, .int .i64 0, .int .i64 0, .int .u64 0, .int .u64 0, .int .u64 0, .int .u64 0, .int .i64 0, .string ⟨#[]⟩, .int .i64 0, .int .i64 0, .int .u64 0] 35)).setRow x0.heap.size #[.int .i64 0, .int .i64 0, .int .i64 0, .int .i64 0, .int .u64 0, .int .u64 0, .int .u64 0, .int .u64 0, .int .i64 0, .string ⟨#[]⟩, .int .i64 0, .int .i64 0, .int .u64 0]) (x8.setCell ⟨x0.heap.size, 8, none⟩ (.int .i64 n8))) := Lib.hid (M15.out.setCell _ (.inl rfl) _)
      clear G15 M15
      have l9 : World.cell? (x8.setCell ⟨x0.heap.size, 8, none⟩ (.int .i64 n8)) ⟨b, off + 9, none⟩ = some (.string ⟨w9.toArray⟩) := (M16.out.cell (p := ⟨b, off + 9, none⟩) hlt2 (by simp only; omega)).trans (HR2.out 9 _ rfl)
      go_wp2_with (go_at_call 48; refine (C9.out _).mono ?_)
      intro e x9 hpp; unfold KeyE at hpp; rw [E9.out] at hpp; obtain ⟨bb, n9, rfl, hin, hv⟩ := hpp
      obtain rfl := hv _ rfl
      have G17 := Lib.hid (G16.out.kept bb)
      have M17 := Lib.hid (M16.out.below bb)
      clear bb hv hin l9 G16 M16 C9
      have q9 := G17.out.cell 9 rfl
      have f9 := G17.out.free 9
      have G18 : Hid (Blk (x9.setCell ⟨x0.heap.size, 9, none⟩ (.string ⟨n9.toArray⟩)) x0.heap.size 35 #[.int .i64 v0, .int .i64 n1, .int .i64 n2, .int .i64 n3, .int .u64 n4, .int .u64 n5, .int .u64 n6, .int .u64 n7, .int .i64 n8, .string ⟨n9.toArray⟩, .int .i64 0, .int .i64 0, .int .u64 0]) := Lib.hid (G17.out.setCell 9 _)
      have M18 : Hid (Mods (· = x0.heap.size) ((x0.alloc (.cells #[.int .i64 0, .int .i64 0, .int .i64 0, .int .i64 0, .int .u64 0, .int .u64 0, .int .u64 0, .int .u64 0, .int .i64 0, .string ⟨#[]⟩, .int .i64 0, .int .i64 0, .int .u64 0] 35)).setRow x0.heap.size #[.int .i64 0, .int .i64 0, .int .i64 0, .int .i64 0, .int .u64 0, .int .u64 0, .int .u64 0, .int .u64 0, .int .i64 0, .string ⟨#[]⟩, .int .i64 0, .int .i64 0, .int .u64 0]) (x9.setCell ⟨x0.heap.size, 9, none⟩ (.string ⟨n9.toArray⟩))) := Lib.hid (M17.out.setCell _ (.inl rfl) _)
      clear G17 M17
      have l10 : World.cell? (x9.setCell ⟨x0.heap.size, 9, none⟩ (.string ⟨n9.toArray⟩)) ⟨b, off + 10, none⟩ = some (.string ⟨w10.toArray⟩) := (M18.out.cell (p := ⟨b, off + 10, none⟩) hlt2 (by simp only; omega)).trans (HR2.out 10 _ rfl)
      go_wp2_with (go_at_call 46; refine (C10.out _).mono ?_)
      intro e x10 hpp; unfold IntE at hpp; rw [E10.out] at hpp; obtain ⟨bb, n10, hin, rfl, hv⟩ := hpp
      obtain rfl := hv _ rfl
      have G19 := Lib.hid (G18.out.kept bb)
      have M19 := Lib.hid (M18.out.below bb)
      clear bb hv hin l10 G18 M18 C10
      have q10 := G19.out.cell 10 rfl
      have f10 := G19.out.free 10
      have G20 : Hid (Blk (x10.setCell ⟨x0.heap.size, 10, none⟩ (.int .i64 n10)) x0.heap.size 35 #[.int .i64 v0, .int .i64 n1, .int .i64 n2, .int .i64 n3, .int .u64 n4, .int .u64 n5, .int .u64 n6, .int .u64 n7, .int .i64 n8, .string ⟨n9.toArray⟩, .int .i64 n10, .int .i64 0, .int .u64 0]) := Lib.hid (G19.out.setCell 10 _)
      have M20 : Hid (Mods (· = x0.heap.size) ((x0.alloc (.cells #[.int .i64 0, .int .i64 0, .int .i64 0, .int .i64 0, .int .u64 0, .int .u64 0, .int .u64 0, .int .u64 0, .int .i64 0, .string ⟨#[]⟩, .int .i64 0, .int .i64 0, .int .u64 0] 35)).setRow x0.heap.size #[.int .i64 0, .int .i64 0, .int .i64 0, .int .i64 0, .int .u64 0, .int .u64 0, .int .u64 0, .int .u64 0, .int .i64 0, .string ⟨#[]⟩, .int .i64 0, .int .i64 0, .int .u64 0]) (x10.setCell ⟨x0.heap.size, 10, none⟩ (.int .i64 n10))) := Lib.hid (M19.out.setCell _ (.inl rfl) _)
      clear G19 M19
      have l11 : World.cell? (x10.setCell ⟨x0.heap.size, 10, none⟩ (.int .i64 n10)) ⟨b, off + 11, none⟩ = some (.string ⟨w11.toArray⟩) := (M20.out.cell (p := ⟨b, off + 11, none⟩) hlt2 (by simp only; omega)).trans (HR2.out 11 _ rfl)
      go_wp2_with (go_at_call 46; refine (C11.out _).mono ?_)
      intro e x11 hpp; unfold IntE at hpp; rw [E11.out] at hpp; obtain ⟨bb, n11, hin, rfl, hv⟩ := hpp
      obtain rfl := hv _ rfl
      have G21 := Lib.hid (G20.out.kept bb)
      have M21 := Lib.hid (M20.out.below bb)
      clear bb hv hin l11 G20 M20 C11
      have q11 := G21.out.cell 11 rfl
      have f11 := G21.out.free 11
      have G22 : Hid (Blk (x11.setCell ⟨x0.heap.size, 11, none⟩ (.int .i64 n11)) x0.heap.size 35 #[.int .i64 v0, .int .i64 n1, .int .i64 n2, .int .i64 n3, .int .u64 n4, .int .u64 n5, .int .u64 n6, .int .u64 n7, .int .i64 n8, .string ⟨n9.toArray⟩, .int .i64 n10, .int .i64 n11, .int .u64 0]) := Lib.hid (G21.out.setCell 11 _)
      have M22 : Hid (Mods (· = x0.heap.size) ((x0.alloc (.cells #[.int .i64 0, .int .i64 0, .int .i64 0, .int .i64 0, .int .u64 0, .int .u64 0, .int .u64 0, .int .u64 0, .int .i64 0, .string ⟨#[]⟩, .int .i64 0, .int .i64 0, .int .u64 0] 35)).setRow x0.heap.size #[.int .i64 0, .int .i64 0, .int .i64 0, .int .i64 0, .int .u64 0, .int .u64 0, .int .u64 0, .int .u64 0, .int .i64 0, .string ⟨#[]⟩, .int .i64 0, .int .i64 0, .int .u64 0]) (x11.setCell ⟨x0.heap.size, 11, none⟩ (.int .i64 n11))) := Lib.hid (M21.out.setCell _ (.inl rfl) _)
      clear G21 M21
      have l12 : World.cell? (x11.setCell ⟨x0.heap.size, 11, none⟩ (.int .i64 n11)) ⟨b, off + 12, none⟩ = some (.string ⟨w12.toArray⟩) := (M22.out.cell (p := ⟨b, off + 12, none⟩) hlt2 (by simp only; omega)).trans (HR2.out 12 _ rfl)
      go_wp2_with (go_at_call 47; refine (C12.out _).mono ?_)
      intro e x12 hpp; unfold NumE at hpp; rw [E12.out] at hpp; obtain ⟨bb, n12, hin, rfl, hv⟩ := hpp
      obtain rfl := hv _ rfl
      have G23 := Lib.hid (G22.out.kept bb)
      have M23 := Lib.hid (M22.out.below bb)
      clear bb hv hin l12 G22 M22 C12
      have q12 := G23.out.cell 12 rfl
      have f12 := G23.out.free 12
      have G24 : Hid (Blk (x12.setCell ⟨x0.heap.size, 12, none⟩ (.int .u64 n12)) x0.heap.size 35 #[.int .i64 v0, .int .i64 n1, .int .i64 n2, .int .i64 n3, .int .u64 n4, .int .u64 n5, .int .u64 n6, .int .u64 n7, .int .i64 n8, .string ⟨n9.toArray⟩, .int .i64 n10, .int .i64 n11, .int .u64 n12]) := Lib.hid (G23.out.setCell 12 _)
      have M24 : Hid (Mods (· = x0.heap.size) ((x0.alloc (.cells #[.int .i64 0, .int .i64 0, .int .i64 0, .int .i64 0, .int .u64 0, .int .u64 0, .int .u64 0, .int .u64 0, .int .i64 0, .string ⟨#[]⟩, .int .i64 0, .int .i64 0, .int .u64 0] 35)).setRow x0.heap.size #[.int .i64 0, .int .i64 0, .int .i64 0, .int .i64 0, .int .u64 0, .int .u64 0, .int .u64 0, .int .u64 0, .int .i64 0, .string ⟨#[]⟩, .int .i64 0, .int .i64 0, .int .u64 0]) (x12.setCell ⟨x0.heap.size, 12, none⟩ (.int .u64 n12))) := Lib.hid (M23.out.setCell _ (.inl rfl) _)
      clear G23 M23
      have c6 := G24.out.cell 6 rfl
      have c7 := G24.out.cell 7 rfl
      have c8 := G24.out.cell 8 rfl
      have c9 := G24.out.cell 9 rfl
      have c10 := G24.out.cell 10 rfl
      have c11 := G24.out.cell 11 rfl
      have c12 := G24.out.cell 12 rfl
      go_wp2_with (go_at_call 33; refine (CC.out _).mono ?_)
      intro e x13 hpp; unfold CmdE at hpp; obtain ⟨rfl, bb⟩ := hpp
      have G99 := Lib.hid (G24.out.kept bb)
      have M99 := Lib.hid (M24.out.below bb)
      clear bb G24 M24 c6 c7 c8 c9 c10 c11 c12 CC
      have hX := HX2.out.mods M99.out (by omega)
      have hBl := Mods.old HA2.out M99.out HA2.out.size (fun i _ h => by have h : i = x0.heap.size := h; omega)
      obtain ⟨hb3, hx3⟩ := set_in #[.int .i64 v0, .int .i64 n1, .int .i64 n2, .int .i64 n3, .int .u64 n4, .int .u64 n5, .int .u64 n6, .int .u64 n7, .int .i64 n8, .string ⟨n9.toArray⟩, .int .i64 n10, .int .i64 n11, .int .u64 n12] hBl hX (Nat.le_refl _)
      have HB3 := Lib.hid hb3
      have HX3 := Lib.hid hx3
      have HX := Lib.hid hX
      have c0 := G99.out.cell 0 rfl
      have c1 := G99.out.cell 1 rfl
      have c2 := G99.out.cell 2 rfl
      have c3 := G99.out.cell 3 rfl
      have c4 := G99.out.cell 4 rfl
      have c5 := G99.out.cell 5 rfl
      have c6 := G99.out.cell 6 rfl
      have c7 := G99.out.cell 7 rfl
      have c8 := G99.out.cell 8 rfl
      have c9 := G99.out.cell 9 rfl
      have c10 := G99.out.cell 10 rfl
      have c11 := G99.out.cell 11 rfl
      have c12 := G99.out.cell 12 rfl
      clear hX hBl hb3 hx3
      go_wp2_with (refine wpList_store_row rfl 35 (.tmp 2) (.tmp 191) rfl w.heap.size #[.int .i64 v0, .int .i64 n1, .int .i64 n2, .int .i64 n3, .int .u64 n4, .int .u64 n5, .int .u64 n6, .int .u64 n7, .int .i64 n8, .string ⟨n9.toArray⟩, .int .i64 n10, .int .i64 n11, .int .u64 n12] rfl rfl _ _ HX.out act_size rfl (by simp [Value.oneCell']) ?_)
      have y0 := HX3.out.cell 0 rfl; have y1 := HX3.out.cell 1 rfl; have y2 := HX3.out.cell 2 rfl; have y3 := HX3.out.cell 3 rfl; have y4 := HX3.out.cell 4 rfl; have y5 := HX3.out.cell 5 rfl; have y6 := HX3.out.cell 6 rfl; have y7 := HX3.out.cell 7 rfl; have y8 := HX3.out.cell 8 rfl; have y9 := HX3.out.cell 9 rfl; have y10 := HX3.out.cell 10 rfl; have y11 := HX3.out.cell 11 rfl; have y12 := HX3.out.cell 12 rfl
      refine bodyPost_ret (v := .tuple #[.agg #[.int .i64 v0, .int .i64 n1, .int .i64 n2, .int .i64 n3, .int .u64 n4, .int .u64 n5, .int .u64 n6, .int .u64 n7, .int .i64 n8, .string ⟨n9.toArray⟩, .int .i64 n10, .int .i64 n11, .int .u64 n12], .bool true]) (by simp [results, Tryd.results15, go_sem, y0, y1, y2, y3, y4, y5, y6, y7, y8, y9, y10, y11, y12]) rfl ?_
      exact refToActE_yes HRES.out rfl HB3.out

end Go.Proofs.YtcinohmhhglpjaaDoor
