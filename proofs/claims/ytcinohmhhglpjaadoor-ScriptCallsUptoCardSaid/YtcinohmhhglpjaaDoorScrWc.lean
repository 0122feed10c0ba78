/- What a call's line says (package script; printed by gen_scrwcall.py). -/
import Derived.Test.YtcinohmhhglpjaaDoorScrCa
import Derived.Test.YtcinohmhhglpjaaDoorScrWs
import Derived.Deep.MidRow
namespace Go.Proofs.YtcinohmhhglpjaaDoor
open Go.RowKit

theorem call_size : (Tryd.prog.info? 48).map (·.size) = some 21 := by kernel_rfl
theorem RdAt.setCell {w : World} {b N : Nat} {L : List (List UInt8)} {p : Addr} (h : RdAt w b N L) (hg : p.block ≠ b) (hN : N ≤ p.block) (v : Value) : RdAt (w.setCell p v) b N L := by
  obtain ⟨A, c, h1, h2, h3, h4, h5, h6⟩ := h
  refine ⟨A, c, h1.setCell_other v (fun e => hg e.symm), h2, h3, ⟨fun hn => ?_⟩, h5, h6⟩
  obtain ⟨b', off, rfl, hlt, hc⟩ := h4.at_ hn
  have := h6 b' rfl
  exact ⟨b', off, rfl, by simpa [World.setCell] using hlt, fun j x hx => (World.cell?_of_block (w := w) (a := ⟨b', off + j, none⟩) (Below.heap_setCell w p v b' (by omega))).trans (hc j x hx)⟩
set_option maxRecDepth 20000 in
set_option maxHeartbeats 8000000 in
theorem whatCallLook (B b N : Nat) (s : List UInt8) (t : List (List UInt8)) (w : World) (h : RdAt w b N (s :: t)) (hE : EnvR B w) (hb : B ≤ b) (hB : B ≤ w.heap.size) (hN : N ≤ w.heap.size) (hs : s ≠ wCall) (lz : Bool) (hlz : (s == [108, 97, 122, 121]) = lz) :
    Calls Tryd.prog 52 #[.pointer (some ⟨b, 0, none⟩)] w (Gives (rdCall (s :: t)) (fun c => .agg c.cells.toArray) b N w) := by
  have hgb : w.heap.size ≠ b := by have := h.lt; omega
  have hal : Below w.heap.size w (w.alloc (.cells #[.int .i64 0, .bool false, .bool false, .int .u64 0, .int .u64 0, .int .i64 0, .string ⟨#[]⟩, .int .i64 0, .int .i64 0, .int .u64 0, .string ⟨#[]⟩, .int .i64 0, .int .i64 0, .int .u64 0, .int .u64 0, .int .i64 0, .int .u64 0, .int .i64 0, .int .i64 0, .int .i64 0, .int .i64 0] 48)) := (Below.refl _ _).alloc (Nat.le_refl _) _
  have HZ0 := Lib.hid (Blk.new w #[.int .i64 0, .bool false, .bool false, .int .u64 0, .int .u64 0, .int .i64 0, .string ⟨#[]⟩, .int .i64 0, .int .i64 0, .int .u64 0, .string ⟨#[]⟩, .int .i64 0, .int .i64 0, .int .u64 0, .int .u64 0, .int .i64 0, .int .u64 0, .int .i64 0, .int .i64 0, .int .i64 0, .int .i64 0] 48)
  have H0 := Lib.hid (h.below hal)
  have M0 := Lib.hid (Mods.of_below (S := (· = b)) hal)
  have HE0 := Lib.hid (hE.below (hal.mono hB))
  obtain ⟨oc, hoc⟩ : ∃ oc, oc = rdCall (s :: t) := ⟨_, rfl⟩
  rw [← hoc]
  unfold rdCall at hoc
  have hdl : decide (s = wLazy) = lz := by
    rw [← hlz]
    by_cases e : s = wLazy
    · rw [decide_eq_true e, e]; rfl
    · rw [decide_eq_false e]; exact (str_ne_of e).symm
  have HDL := Lib.hid hdl
  have HS := Lib.hid hs
  have hsn : (s == [99, 97, 108, 108]) = false := str_ne_of hs
  have hgB := h.lt
  have R0 := Lib.hid (bind_goes hoc (rd_cons (show some s = some s from rfl) t))
  have H9 := Lib.hid H0.out
  have M9 := Lib.hid M0.out
  have HE9 := Lib.hid HE0.out
  have HZ9 := Lib.hid HZ0.out
  clear hoc h hE hal H0 M0 HE0 HZ0 hdl hs
  go_enter Tryd.func52, Tryd.ntmps52
  go_wp2_with (go_at_call 40; refine (nextYes b N _ t _ H9.out).mono ?_)
  first | rintro e w1 ⟨rfl, h1, m1⟩ | rintro e w1 rfl h1 m1
  have H0 := Lib.hid h1
  have M0 := Lib.hid (M9.out.then m1)
  have HE0 := Lib.hid (HE9.out.below (m1.low hb (Nat.le_trans hB M9.out.size)))
  have HZ0 := Lib.hid (HZ9.out.mods m1 hgb)
  clear h1 m1 H9 M9 HE9 HZ9
  go_wp2_with (go_at_call 42; refine (intR B b N t _ H0.out HE0.out hb (Nat.le_trans hB M0.out.size)).mono ?_)
  rintro e z1 (⟨x1, L1, hs, rfl, h1, m1⟩ | ⟨hs, rfl, m1⟩)
  rotate_left
  · have HN := Lib.hid (bind_gone R0.out hs)
    have MN := Lib.hid (M0.out.then m1)
    clear hs m1
    go_wp2_with fail
    exact ⟨rfl, gives_no HN.out MN.out⟩
  obtain ⟨s0, hv0⟩ := rd_val hs
  have V0 := Lib.hid (pint_some hv0)
  have R1 := Lib.hid (bind_goes R0.out hs)
  have H1 := Lib.hid h1
  have M1 := Lib.hid (M0.out.then m1)
  have HE1 := Lib.hid (HE0.out.below (m1.low hb (Nat.le_trans hB M0.out.size)))
  have HZ1 := Lib.hid (HZ0.out.mods m1 hgb)
  clear hs h1 m1 hv0 H0 M0 HE0 HZ0 R0
  go_wp2_with (go_at_call 42; refine (intR B b N L1 _ H1.out HE1.out hb (Nat.le_trans hB M1.out.size)).mono ?_)
  rintro e z2 (⟨x2, L2, hs, rfl, h1, m1⟩ | ⟨hs, rfl, m1⟩)
  rotate_left
  · have HN := Lib.hid (bind_gone R1.out hs)
    have MN := Lib.hid (M1.out.then m1)
    clear hs m1
    go_wp2_with fail
    exact ⟨rfl, gives_no HN.out MN.out⟩
  obtain ⟨s1, hv1⟩ := rd_val hs
  have V1 := Lib.hid (pint_some hv1)
  have R2 := Lib.hid (bind_goes R1.out hs)
  have H2 := Lib.hid h1
  have M2 := Lib.hid (M1.out.then m1)
  have HE2 := Lib.hid (HE1.out.below (m1.low hb (Nat.le_trans hB M1.out.size)))
  have HZ2 := Lib.hid (HZ1.out.mods m1 hgb)
  clear hs h1 m1 hv1 H1 M1 HE1 HZ1 R1
  go_wp2_with (go_at_call 42; refine (intR B b N L2 _ H2.out HE2.out hb (Nat.le_trans hB M2.out.size)).mono ?_)
  rintro e z3 (⟨x3, L3, hs, rfl, h1, m1⟩ | ⟨hs, rfl, m1⟩)
  rotate_left
  · have HN := Lib.hid (bind_gone R2.out hs)
    have MN := Lib.hid (M2.out.then m1)
    clear hs m1
    go_wp2_with fail
    exact ⟨rfl, gives_no HN.out MN.out⟩
  obtain ⟨s2, hv2⟩ := rd_val hs
  have V2 := Lib.hid (pint_some hv2)
  have R3 := Lib.hid (bind_goes R2.out hs)
  have H3 := Lib.hid h1
  have M3 := Lib.hid (M2.out.then m1)
  have HE3 := Lib.hid (HE2.out.below (m1.low hb (Nat.le_trans hB M2.out.size)))
  have HZ3 := Lib.hid (HZ2.out.mods m1 hgb)
  clear hs h1 m1 hv2 H2 M2 HE2 HZ2 R2
  have R3' : Hid (oc = Rd.bind (rd pkey) (fun key => Rd.bind (rd pint) fun cap => Rd.bind (rd pint) fun lent => Rd.ret ⟨x1, true, lz, .zero, key, x2, x3, .zero, cap, lent⟩) L3) := Lib.hid (by
    have := R3.out
    unfold rdTail at this
    rw [if_neg HS.out, HDL.out] at this
    exact this)
  have hgG : z3.heap.size ≠ b := by have := H3.out.lt; omega
  have hG0 : w.heap.size < z3.heap.size := by have := HZ3.out.lt; omega
  have HNN := Lib.hid (Blk.new z3 #[.int .i64 0, .bool false, .bool false, .int .u64 0, .int .u64 0, .int .i64 0, .string ⟨#[]⟩, .int .i64 0, .int .i64 0, .int .u64 0, .string ⟨#[]⟩, .int .i64 0, .int .i64 0, .int .u64 0, .int .u64 0, .int .i64 0, .int .u64 0, .int .i64 0, .int .i64 0, .int .i64 0, .int .i64 0] 48)
  obtain ⟨hbg, hxg⟩ := laid_row z3 #[.int .i64 0, .bool false, .bool false, .int .u64 0, .int .u64 0, .int .i64 0, .string ⟨#[]⟩, .int .i64 0, .int .i64 0, .int .u64 0, .string ⟨#[]⟩, .int .i64 0, .int .i64 0, .int .u64 0, .int .u64 0, .int .i64 0, .int .u64 0, .int .i64 0, .int .i64 0, .int .i64 0, .int .i64 0] #[.int .i64 x1, .bool true, .bool lz, .int .u64 0, .int .u64 0, .int .i64 0, .string ⟨#[]⟩, .int .i64 0, .int .i64 0, .int .u64 0, .string ⟨#[]⟩, .int .i64 x2, .int .i64 x3, .int .u64 0, .int .u64 0, .int .i64 0, .int .u64 0, .int .i64 0, .int .i64 0, .int .i64 0, .int .i64 0] 48
  have H3b := Lib.hid (H3.out.below hbg)
  have M3b := Lib.hid (M3.out.below hbg)
  have HE3b := Lib.hid (HE3.out.below (hbg.mono (Nat.le_trans hB M3.out.size)))
  have HZ3b := Lib.hid (HZ3.out.kept hbg)
  have HG3 := Lib.hid hxg
  have hmz := M3.out.size
  clear H3 M3 HE3 HZ3 R3 hbg hxg
  obtain ⟨G, hG⟩ : ∃ G, G = z3.heap.size := ⟨_, rfl⟩
  rw [← hG] at hgG hG0 hmz
  have H3 := H3b
  have M3 := M3b
  have HE3 := HE3b
  have HZ3 := HZ3b
  have R3 := R3'
  clear H3b M3b HE3b HZ3b R3'
  go_wp2_with (refine wpList_store_row rfl 48 (.tmp 4) (.tmp 17) rfl z3.heap.size #[.int .i64 x1, .bool true, .bool lz, .int .u64 0, .int .u64 0, .int .i64 0, .string ⟨#[]⟩, .int .i64 0, .int .i64 0, .int .u64 0, .string ⟨#[]⟩, .int .i64 x2, .int .i64 x3, .int .u64 0, .int .u64 0, .int .i64 0, .int .u64 0, .int .i64 0, .int .i64 0, .int .i64 0, .int .i64 0] rfl rfl _ _ HNN.out call_size rfl (by simp [Value.oneCell']) ?_; clear HNN; generalize ((z3.alloc (.cells #[.int .i64 0, .bool false, .bool false, .int .u64 0, .int .u64 0, .int .i64 0, .string ⟨#[]⟩, .int .i64 0, .int .i64 0, .int .u64 0, .string ⟨#[]⟩, .int .i64 0, .int .i64 0, .int .u64 0, .int .u64 0, .int .i64 0, .int .u64 0, .int .i64 0, .int .i64 0, .int .i64 0, .int .i64 0] 48)).setRow z3.heap.size #[.int .i64 x1, .bool true, .bool lz, .int .u64 0, .int .u64 0, .int .i64 0, .string ⟨#[]⟩, .int .i64 0, .int .i64 0, .int .u64 0, .string ⟨#[]⟩, .int .i64 x2, .int .i64 x3, .int .u64 0, .int .u64 0, .int .i64 0, .int .u64 0, .int .i64 0, .int .i64 0, .int .i64 0, .int .i64 0]) = z3b at *; rw [← hG] at HG3; simp only [← hG]; clear hG; have g1 := HG3.out.cell 1 rfl)
  clear g1
  go_wp2_with (go_at_call 53; refine (keyR B b N L3 _ H3.out HE3.out hb (Nat.le_trans hB M3.out.size)).mono ?_)
  rintro e z4 (⟨x4, L4, hs, rfl, h1, m1⟩ | ⟨hs, rfl, m1⟩)
  rotate_left
  · have HN := Lib.hid (bind_gone R3.out hs)
    have MN := Lib.hid (M3.out.then m1)
    clear hs m1
    go_wp2_with fail
    exact ⟨rfl, gives_no HN.out MN.out⟩
  obtain ⟨s3, hv3⟩ := rd_val hs
  have V3 := Lib.hid (pkey_some hv3)
  have R4 := Lib.hid (bind_goes R3.out hs)
  have H4 := Lib.hid h1
  have M4 := Lib.hid (M3.out.then m1)
  have HE4 := Lib.hid (HE3.out.below (m1.low hb (Nat.le_trans hB M3.out.size)))
  have HZ4 := Lib.hid (HZ3.out.mods m1 hgb)
  have HG4 := Lib.hid (HG3.out.mods m1 hgG)
  clear hs h1 m1 hv3 H3 M3 HE3 HZ3 R3 HG3
  go_wp2_with (go_at_call 42; refine (intR B b N L4 _ H4.out HE4.out hb (Nat.le_trans hB M4.out.size)).mono ?_)
  rintro e z5 (⟨x5, L5, hs, rfl, h1, m1⟩ | ⟨hs, rfl, m1⟩)
  rotate_left
  · have HN := Lib.hid (bind_gone R4.out hs)
    have MN := Lib.hid (M4.out.then m1)
    clear hs m1
    go_wp2_with fail
    exact ⟨rfl, gives_no HN.out MN.out⟩
  obtain ⟨s4, hv4⟩ := rd_val hs
  have V4 := Lib.hid (pint_some hv4)
  have R5 := Lib.hid (bind_goes R4.out hs)
  have H5 := Lib.hid h1
  have M5 := Lib.hid (M4.out.then m1)
  have HE5 := Lib.hid (HE4.out.below (m1.low hb (Nat.le_trans hB M4.out.size)))
  have HZ5 := Lib.hid (HZ4.out.mods m1 hgb)
  have HG5 := Lib.hid (HG4.out.mods m1 hgG)
  clear hs h1 m1 hv4 H4 M4 HE4 HZ4 R4 HG4
  go_wp2_with (go_at_call 42; refine (intR B b N L5 _ H5.out HE5.out hb (Nat.le_trans hB M5.out.size)).mono ?_)
  rintro e z6 (⟨x6, L6, hs, rfl, h1, m1⟩ | ⟨hs, rfl, m1⟩)
  rotate_left
  · have HN := Lib.hid (bind_gone R5.out hs)
    have MN := Lib.hid (M5.out.then m1)
    clear hs m1
    go_wp2_with fail
    exact ⟨rfl, gives_no HN.out MN.out⟩
  obtain ⟨s5, hv5⟩ := rd_val hs
  have V5 := Lib.hid (pint_some hv5)
  have R6 := Lib.hid (bind_goes R5.out hs)
  have H6 := Lib.hid h1
  have M6 := Lib.hid (M5.out.then m1)
  have HE6 := Lib.hid (HE5.out.below (m1.low hb (Nat.le_trans hB M5.out.size)))
  have HZ6 := Lib.hid (HZ5.out.mods m1 hgb)
  have HG6 := Lib.hid (HG5.out.mods m1 hgG)
  clear hs h1 m1 hv5 H5 M5 HE5 HZ5 R5 HG5
  have HY : Hid (oc = some (⟨x1, true, lz, .zero, x4, x2, x3, .zero, x5, x6⟩, L6)) := Lib.hid R6.out
  have hq1 := HG6.out.setCell 10 (.string ⟨x4.toArray⟩)
  have hq2 := hq1.setCell 19 (.int .i64 x5)
  have hq3 := hq2.setCell 20 (.int .i64 x6)
  have a1 := HG6.out.free 10
  have a2 := HG6.out.cell 10 rfl
  have a3 := hq1.free 19
  have a4 := hq1.cell 19 rfl
  have a5 := hq2.free 20
  have a6 := hq2.cell 20 rfl
  have hgv : G ≠ w.heap.size := by omega
  have HGF : Hid (Blk (((z6.setCell ⟨G, 10, none⟩ (.string ⟨x4.toArray⟩)).setCell ⟨G, 19, none⟩ (.int .i64 x5)).setCell ⟨G, 20, none⟩ (.int .i64 x6)) G 48 #[.int .i64 x1, .bool true, .bool lz, .int .u64 0, .int .u64 0, .int .i64 0, .string ⟨#[]⟩, .int .i64 0, .int .i64 0, .int .u64 0, .string ⟨x4.toArray⟩, .int .i64 x2, .int .i64 x3, .int .u64 0, .int .u64 0, .int .i64 0, .int .u64 0, .int .i64 0, .int .i64 0, .int .i64 x5, .int .i64 x6]) := Lib.hid hq3
  have HRF := Lib.hid (((H6.out.setCell (p := ⟨G, 10, none⟩) hgG (by simp only; omega) (.string ⟨x4.toArray⟩)).setCell (p := ⟨G, 19, none⟩) hgG (by simp only; omega) (.int .i64 x5)).setCell (p := ⟨G, 20, none⟩) hgG (by simp only; omega) (.int .i64 x6))
  have MF := Lib.hid (((M6.out.setCell ⟨G, 10, none⟩ (.inr (by simp only; omega)) (.string ⟨x4.toArray⟩)).setCell ⟨G, 19, none⟩ (.inr (by simp only; omega)) (.int .i64 x5)).setCell ⟨G, 20, none⟩ (.inr (by simp only; omega)) (.int .i64 x6))
  have HZF := Lib.hid (((HZ6.out.setCell_other (a := ⟨G, 10, none⟩) (.string ⟨x4.toArray⟩) hgv.symm).setCell_other (a := ⟨G, 19, none⟩) (.int .i64 x5) hgv.symm).setCell_other (a := ⟨G, 20, none⟩) (.int .i64 x6) hgv.symm)
  clear hq1 hq2 hq3 H6 M6 HZ6 HG6 HE6 R6
  go_wp2_with (first
    | (refine wpList_load_row rfl 48 (.tmp 4) rfl G rfl 48 #[.int .i64 x1, .bool true, .bool lz, .int .u64 0, .int .u64 0, .int .i64 0, .string ⟨#[]⟩, .int .i64 0, .int .i64 0, .int .u64 0, .string ⟨x4.toArray⟩, .int .i64 x2, .int .i64 x3, .int .u64 0, .int .u64 0, .int .i64 0, .int .u64 0, .int .i64 0, .int .i64 0, .int .i64 x5, .int .i64 x6] (0, 0) _ HGF.out Tryd.underlying48 rfl call_size ?_)
    | (refine wpList_store_row rfl 48 (.tmp 2) (.tmp 29) rfl w.heap.size #[.int .i64 x1, .bool true, .bool lz, .int .u64 0, .int .u64 0, .int .i64 0, .string ⟨#[]⟩, .int .i64 0, .int .i64 0, .int .u64 0, .string ⟨x4.toArray⟩, .int .i64 x2, .int .i64 x3, .int .u64 0, .int .u64 0, .int .i64 0, .int .u64 0, .int .i64 0, .int .i64 0, .int .i64 x5, .int .i64 x6] rfl rfl _ _ HZF.out call_size rfl (by simp [Value.oneCell']) ?_))
  have HRG := Lib.hid (HRF.out.setRow hgb hN #[.int .i64 x1, .bool true, .bool lz, .int .u64 0, .int .u64 0, .int .i64 0, .string ⟨#[]⟩, .int .i64 0, .int .i64 0, .int .u64 0, .string ⟨x4.toArray⟩, .int .i64 x2, .int .i64 x3, .int .u64 0, .int .u64 0, .int .i64 0, .int .u64 0, .int .i64 0, .int .i64 0, .int .i64 x5, .int .i64 x6])
  have MG := Lib.hid (MF.out.setRow w.heap.size (.inr (Nat.le_refl _)) #[.int .i64 x1, .bool true, .bool lz, .int .u64 0, .int .u64 0, .int .i64 0, .string ⟨#[]⟩, .int .i64 0, .int .i64 0, .int .u64 0, .string ⟨x4.toArray⟩, .int .i64 x2, .int .i64 x3, .int .u64 0, .int .u64 0, .int .i64 0, .int .u64 0, .int .i64 0, .int .i64 0, .int .i64 x5, .int .i64 x6])
  have HZG := Lib.hid (HZF.out.setRow #[.int .i64 x1, .bool true, .bool lz, .int .u64 0, .int .u64 0, .int .i64 0, .string ⟨#[]⟩, .int .i64 0, .int .i64 0, .int .u64 0, .string ⟨x4.toArray⟩, .int .i64 x2, .int .i64 x3, .int .u64 0, .int .u64 0, .int .i64 0, .int .u64 0, .int .i64 0, .int .i64 0, .int .i64 x5, .int .i64 x6])
  refine bodyPost_ret (v := .agg #[.int .i64 x1, .bool true, .bool lz, .int .u64 0, .int .u64 0, .int .i64 0, .string ⟨#[]⟩, .int .i64 0, .int .i64 0, .int .u64 0, .string ⟨x4.toArray⟩, .int .i64 x2, .int .i64 x3, .int .u64 0, .int .u64 0, .int .i64 0, .int .u64 0, .int .i64 0, .int .i64 0, .int .i64 x5, .int .i64 x6]) (results_cell_row rfl _ _ w.heap.size 48 #[.int .i64 x1, .bool true, .bool lz, .int .u64 0, .int .u64 0, .int .i64 0, .string ⟨#[]⟩, .int .i64 0, .int .i64 0, .int .u64 0, .string ⟨x4.toArray⟩, .int .i64 x2, .int .i64 x3, .int .u64 0, .int .u64 0, .int .i64 0, .int .u64 0, .int .i64 0, .int .i64 0, .int .i64 x5, .int .i64 x6] (0, 0) _ rfl HZG.out Tryd.underlying48 rfl call_size) rfl ?_
  exact gives_yes HY.out rfl HRG.out MG.out

/-- Some cells of a row written. -/
def putAll : Array Value → Nat → List Value → Array Value
  | cs, _, [] => cs
  | cs, o, v :: r => putAll (cs.setIfInBounds o v) (o + 1) r
theorem Blk.setCells {g : Nat} {U : TypeId} : ∀ (vs : List Value) (o : Nat) {w : World} {cs : Array Value}, Blk w g U cs → Blk (w.setCells g o vs) g U (putAll cs o vs)
  | [], _, _, _, h => h
  | v :: r, o, _, _, h => Blk.setCells r (o + 1) (h.setCell o v)
theorem Blk.setCells_other {g k : Nat} {U : TypeId} {cs : Array Value} (hk : g ≠ k) : ∀ (vs : List Value) (o : Nat) {w : World}, Blk w g U cs → Blk (w.setCells k o vs) g U cs
  | [], _, _, h => h
  | v :: r, o, _, h => Blk.setCells_other hk r (o + 1) (h.setCell_other v hk)
theorem RdAt.setCells {b N g : Nat} {L : List (List UInt8)} (hg : g ≠ b) (hN : N ≤ g) : ∀ (vs : List Value) (o : Nat) {w : World}, RdAt w b N L → RdAt (w.setCells g o vs) b N L
  | [], _, _, h => h
  | v :: r, o, _, h => RdAt.setCells hg hN r (o + 1) (h.setCell (p := ⟨g, o, none⟩) hg hN v)
theorem Mods.setCells {P : Nat → Prop} {w0 : World} {g : Nat} (hp : P g ∨ w0.heap.size ≤ g) : ∀ (vs : List Value) (o : Nat) {w : World}, Mods P w0 w → Mods P w0 (w.setCells g o vs)
  | [], _, _, h => h
  | v :: r, o, _, h => Mods.setCells hp r (o + 1) (h.setCell ⟨g, o, none⟩ hp v)
theorem Blk.there {w : World} {g o n : Nat} {U : TypeId} {cs : Array Value} (h : Blk w g U cs) (hn : o + n ≤ cs.size) : w.there g o n := fun j hj =>
  ⟨by rw [h.cell (o + j) (v := cs[o + j]'(by omega)) (Array.getElem?_eq_getElem (by omega))]; rfl, h.free _⟩
theorem wrap_toI {n : Int} (h0 : 0 ≤ n) (h1 : n ≤ 18446744073709551615) : IntKind.i64.wrap n = toI n := by
  unfold toI
  rw [IntKind.wrap_i64]
  split <;> omega
theorem Env.cells {B g : Nat} {w : World} (h : EnvR B w) (hg : B ≤ g) (hs : B ≤ w.heap.size) : ∀ (vs : List Value) (o : Nat) {w' : World}, Below B w w' → EnvR B (w'.setCells g o vs)
  | [], _, _, hb => h.below hb
  | v :: r, o, _, hb => Env.cells h hg hs r (o + 1) (hb.setCell (p := ⟨g, o, none⟩) hg v)
end Go.Proofs.YtcinohmhhglpjaaDoor
