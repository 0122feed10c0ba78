/- What a setting's line says (package script). -/
import Derived.Test.YtcinohmhhglpjaaDoorScrWa
import Derived.Test.YtcinohmhhglpjaaDoorScrRx
namespace Go.Proofs.YtcinohmhhglpjaaDoor
open Go.RowKit

theorem Rd.bind_assoc {α β γ : Type} (m : Rd α) (f : α → Rd β) (g : β → Rd γ) : Rd.bind (Rd.bind m f) g = Rd.bind m (fun x => Rd.bind (f x) g) := by
  funext l
  unfold Rd.bind
  cases m l <;> rfl
theorem Rd.ret_bind {α β : Type} (x : α) (f : α → Rd β) : Rd.bind (Rd.ret x) f = f x := rfl
/-- A setting's ten numbers. -/
structure Sg where
  x1 : Int
  x2 : Int
  x3 : Int
  x4 : Int
  x5 : Int
  x6 : Int
  x7 : Int
  x8 : Int
  x9 : Int
  x10 : Int
def Sg.list (x : Sg) : List Int := [x.x1, x.x2, x.x3, x.x4, x.x5, x.x6, x.x7, x.x8, x.x9, x.x10]
def Sg.cells (x : Sg) : List Value := [.int .i64 x.x1, .int .i64 x.x2, .int .i64 x.x3, .int .i64 x.x4, .int .i64 x.x5, .int .i64 x.x6, .int .i64 x.x7, .int .i64 x.x8, .int .i64 x.x9, .int .i64 x.x10]
theorem Sg.cells_list (x : Sg) : x.cells = x.list.map (Value.int .i64) := rfl
def rdSg : Rd Sg := Rd.bind (rd (isWord setWord)) fun _ => Rd.bind (rd pint) fun x1 => Rd.bind (rd pint) fun x2 => Rd.bind (rd pint) fun x3 => Rd.bind (rd pint) fun x4 => Rd.bind (rd pint) fun x5 => Rd.bind (rd pint) fun x6 => Rd.bind (rd pint) fun x7 => Rd.bind (rd pint) fun x8 => Rd.bind (rd pint) fun x9 => Rd.bind (rd pint) fun x10 => Rd.ret ⟨x1, x2, x3, x4, x5, x6, x7, x8, x9, x10⟩
theorem rdSetting_flat : rdSetting = Rd.bind rdSg fun x => Rd.ret x.list := by
  unfold rdSetting rdSg
  simp only [rdInts, Rd.bind_assoc, Rd.ret_bind]
  rfl
def readSg (l : List UInt8) : Option Sg := whole rdSg l
theorem readSetting_sg (l : List UInt8) : readSetting l = (readSg l).map Sg.list := by
  unfold readSetting readSg whole
  rw [rdSetting_flat]
  unfold Rd.bind
  cases rdSg (parts 32 l) with
  | none => rfl
  | some y =>
    obtain ⟨x, r⟩ := y
    cases r <;> rfl
theorem set_size' : (Tryd.prog.info? 23).map (·.size) = some 10 := by kernel_rfl
set_option maxRecDepth 20000 in
set_option maxHeartbeats 4000000 in
theorem whatSetting (B b N : Nat) (L : List (List UInt8)) (w : World) (h : RdAt w b N L) (hE : EnvR B w) (hb : B ≤ b) (hB : B ≤ w.heap.size) (hN : N ≤ w.heap.size) :
    Calls Tryd.prog 72 #[.pointer (some ⟨b, 0, none⟩)] w (Gives (rdSg L) (fun x => .agg x.cells.toArray) b N w) := by
  have hgb : w.heap.size ≠ b := by have := h.lt; omega
  have hal : Below w.heap.size w (w.alloc (.cells #[.int .i64 0, .int .i64 0, .int .i64 0, .int .i64 0, .int .i64 0, .int .i64 0, .int .i64 0, .int .i64 0, .int .i64 0, .int .i64 0] 23)) := (Below.refl _ _).alloc (Nat.le_refl _) _
  have HZ0 := Lib.hid (Blk.new w #[.int .i64 0, .int .i64 0, .int .i64 0, .int .i64 0, .int .i64 0, .int .i64 0, .int .i64 0, .int .i64 0, .int .i64 0, .int .i64 0] 23)
  have H0 := Lib.hid (h.below hal)
  have M0 := Lib.hid (Mods.of_below (S := (· = b)) hal)
  have HE0 := Lib.hid (hE.below (hal.mono hB))
  cases L with
  | nil =>
    have C := Lib.hid (nextNo b N _ H0.out)
    clear h hE hal
    go_enter Tryd.func72, Tryd.ntmps72
    go_wp2_with (go_at_call 40; refine C.out.mono ?_)
    first | rintro e w1 ⟨rfl, m1⟩ | rintro e w1 rfl m1
    have MN := Lib.hid (M0.out.then m1)
    clear m1
    go_wp2_with fail
    exact ⟨rfl, gives_no rfl MN.out⟩
  | cons s t =>
    obtain ⟨oc, hoc⟩ : ∃ oc, oc = rdSg (s :: t) := ⟨_, rfl⟩
    rw [← hoc]
    unfold rdSg at hoc
    have R9 := Lib.hid hoc
    have H9 := Lib.hid H0.out
    have M9 := Lib.hid M0.out
    have HE9 := Lib.hid HE0.out
    have HZ9 := Lib.hid HZ0.out
    clear hoc h hE hal H0 M0 HE0 HZ0
    by_cases hs : s = [115, 101, 116, 116, 105, 110, 103]
    · subst hs
      have R0 := Lib.hid (bind_goes R9.out (rd_cons (show isWord setWord [115, 101, 116, 116, 105, 110, 103] = some () by simp [isWord, setWord]) t))
      clear R9
      go_enter Tryd.func72, Tryd.ntmps72
      go_wp2_with (go_at_call 40; refine (nextYes b N _ t _ H9.out).mono ?_)
      first | rintro e w1 ⟨rfl, h1, m1⟩ | rintro e w1 rfl h1 m1
      have H0 := Lib.hid h1
      have M0 := Lib.hid (M9.out.then m1)
      have HE0 := Lib.hid (HE9.out.below (m1.low hb (Nat.le_trans hB M9.out.size)))
      have HZ0 := Lib.hid (HZ9.out.mods m1 hgb)
      clear h1 m1 H9 M9 HE9 HZ9
      go_wp2_with (go_at_call 41; with_reducible refine (needT _ _).mono ?_)
      rintro e w2 ⟨rfl, rfl⟩
      go_wp2_with (go_at_call 42; refine (intR B b N t _ H0.out HE0.out hb (Nat.le_trans hB M0.out.size)).mono ?_)
      rintro e z1 (⟨x1, L1, hs, rfl, h1, m1⟩ | ⟨hs, rfl, m1⟩)
      rotate_left
      · have HN := Lib.hid (bind_gone R0.out hs)
        have MN := Lib.hid (M0.out.then m1)
        clear hs m1
        go_wp2_with fail
        exact ⟨rfl, gives_no HN.out MN.out⟩
      obtain ⟨s0, hv0⟩ := rd_val hs
      have V0 := Lib.hid (pint_some hv0)
      have R1 := Lib.hid (bind_goes R0.out hs)
      have H1 := Lib.hid h1
      have M1 := Lib.hid (M0.out.then m1)
      have HE1 := Lib.hid (HE0.out.below (m1.low hb (Nat.le_trans hB M0.out.size)))
      have HZ1 := Lib.hid (HZ0.out.mods m1 hgb)
      clear hs h1 m1 hv0 H0 M0 HE0 HZ0 R0
      go_wp2_with (go_at_call 42; refine (intR B b N L1 _ H1.out HE1.out hb (Nat.le_trans hB M1.out.size)).mono ?_)
      rintro e z2 (⟨x2, L2, hs, rfl, h1, m1⟩ | ⟨hs, rfl, m1⟩)
      rotate_left
      · have HN := Lib.hid (bind_gone R1.out hs)
        have MN := Lib.hid (M1.out.then m1)
        clear hs m1
        go_wp2_with fail
        exact ⟨rfl, gives_no HN.out MN.out⟩
      obtain ⟨s1, hv1⟩ := rd_val hs
      have V1 := Lib.hid (pint_some hv1)
      have R2 := Lib.hid (bind_goes R1.out hs)
      have H2 := Lib.hid h1
      have M2 := Lib.hid (M1.out.then m1)
      have HE2 := Lib.hid (HE1.out.below (m1.low hb (Nat.le_trans hB M1.out.size)))
      have HZ2 := Lib.hid (HZ1.out.mods m1 hgb)
      clear hs h1 m1 hv1 H1 M1 HE1 HZ1 R1
      go_wp2_with (go_at_call 42; refine (intR B b N L2 _ H2.out HE2.out hb (Nat.le_trans hB M2.out.size)).mono ?_)
      rintro e z3 (⟨x3, L3, hs, rfl, h1, m1⟩ | ⟨hs, rfl, m1⟩)
      rotate_left
      · have HN := Lib.hid (bind_gone R2.out hs)
        have MN := Lib.hid (M2.out.then m1)
        clear hs m1
        go_wp2_with fail
        exact ⟨rfl, gives_no HN.out MN.out⟩
      obtain ⟨s2, hv2⟩ := rd_val hs
      have V2 := Lib.hid (pint_some hv2)
      have R3 := Lib.hid (bind_goes R2.out hs)
      have H3 := Lib.hid h1
      have M3 := Lib.hid (M2.out.then m1)
      have HE3 := Lib.hid (HE2.out.below (m1.low hb (Nat.le_trans hB M2.out.size)))
      have HZ3 := Lib.hid (HZ2.out.mods m1 hgb)
      clear hs h1 m1 hv2 H2 M2 HE2 HZ2 R2
      go_wp2_with (go_at_call 42; refine (intR B b N L3 _ H3.out HE3.out hb (Nat.le_trans hB M3.out.size)).mono ?_)
      rintro e z4 (⟨x4, L4, hs, rfl, h1, m1⟩ | ⟨hs, rfl, m1⟩)
      rotate_left
      · have HN := Lib.hid (bind_gone R3.out hs)
        have MN := Lib.hid (M3.out.then m1)
        clear hs m1
        go_wp2_with fail
        exact ⟨rfl, gives_no HN.out MN.out⟩
      obtain ⟨s3, hv3⟩ := rd_val hs
      have V3 := Lib.hid (pint_some hv3)
      have R4 := Lib.hid (bind_goes R3.out hs)
      have H4 := Lib.hid h1
      have M4 := Lib.hid (M3.out.then m1)
      have HE4 := Lib.hid (HE3.out.below (m1.low hb (Nat.le_trans hB M3.out.size)))
      have HZ4 := Lib.hid (HZ3.out.mods m1 hgb)
      clear hs h1 m1 hv3 H3 M3 HE3 HZ3 R3
      go_wp2_with (go_at_call 42; refine (intR B b N L4 _ H4.out HE4.out hb (Nat.le_trans hB M4.out.size)).mono ?_)
      rintro e z5 (⟨x5, L5, hs, rfl, h1, m1⟩ | ⟨hs, rfl, m1⟩)
      rotate_left
      · have HN := Lib.hid (bind_gone R4.out hs)
        have MN := Lib.hid (M4.out.then m1)
        clear hs m1
        go_wp2_with fail
        exact ⟨rfl, gives_no HN.out MN.out⟩
      obtain ⟨s4, hv4⟩ := rd_val hs
      have V4 := Lib.hid (pint_some hv4)
      have R5 := Lib.hid (bind_goes R4.out hs)
      have H5 := Lib.hid h1
      have M5 := Lib.hid (M4.out.then m1)
      have HE5 := Lib.hid (HE4.out.below (m1.low hb (Nat.le_trans hB M4.out.size)))
      have HZ5 := Lib.hid (HZ4.out.mods m1 hgb)
      clear hs h1 m1 hv4 H4 M4 HE4 HZ4 R4
      go_wp2_with (go_at_call 42; refine (intR B b N L5 _ H5.out HE5.out hb (Nat.le_trans hB M5.out.size)).mono ?_)
      rintro e z6 (⟨x6, L6, hs, rfl, h1, m1⟩ | ⟨hs, rfl, m1⟩)
      rotate_left
      · have HN := Lib.hid (bind_gone R5.out hs)
        have MN := Lib.hid (M5.out.then m1)
        clear hs m1
        go_wp2_with fail
        exact ⟨rfl, gives_no HN.out MN.out⟩
      obtain ⟨s5, hv5⟩ := rd_val hs
      have V5 := Lib.hid (pint_some hv5)
      have R6 := Lib.hid (bind_goes R5.out hs)
      have H6 := Lib.hid h1
      have M6 := Lib.hid (M5.out.then m1)
      have HE6 := Lib.hid (HE5.out.below (m1.low hb (Nat.le_trans hB M5.out.size)))
      have HZ6 := Lib.hid (HZ5.out.mods m1 hgb)
      clear hs h1 m1 hv5 H5 M5 HE5 HZ5 R5
      go_wp2_with (go_at_call 42; refine (intR B b N L6 _ H6.out HE6.out hb (Nat.le_trans hB M6.out.size)).mono ?_)
      rintro e z7 (⟨x7, L7, hs, rfl, h1, m1⟩ | ⟨hs, rfl, m1⟩)
      rotate_left
      · have HN := Lib.hid (bind_gone R6.out hs)
        have MN := Lib.hid (M6.out.then m1)
        clear hs m1
        go_wp2_with fail
        exact ⟨rfl, gives_no HN.out MN.out⟩
      obtain ⟨s6, hv6⟩ := rd_val hs
      have V6 := Lib.hid (pint_some hv6)
      have R7 := Lib.hid (bind_goes R6.out hs)
      have H7 := Lib.hid h1
      have M7 := Lib.hid (M6.out.then m1)
      have HE7 := Lib.hid (HE6.out.below (m1.low hb (Nat.le_trans hB M6.out.size)))
      have HZ7 := Lib.hid (HZ6.out.mods m1 hgb)
      clear hs h1 m1 hv6 H6 M6 HE6 HZ6 R6
      go_wp2_with (go_at_call 42; refine (intR B b N L7 _ H7.out HE7.out hb (Nat.le_trans hB M7.out.size)).mono ?_)
      rintro e z8 (⟨x8, L8, hs, rfl, h1, m1⟩ | ⟨hs, rfl, m1⟩)
      rotate_left
      · have HN := Lib.hid (bind_gone R7.out hs)
        have MN := Lib.hid (M7.out.then m1)
        clear hs m1
        go_wp2_with fail
        exact ⟨rfl, gives_no HN.out MN.out⟩
      obtain ⟨s7, hv7⟩ := rd_val hs
      have V7 := Lib.hid (pint_some hv7)
      have R8 := Lib.hid (bind_goes R7.out hs)
      have H8 := Lib.hid h1
      have M8 := Lib.hid (M7.out.then m1)
      have HE8 := Lib.hid (HE7.out.below (m1.low hb (Nat.le_trans hB M7.out.size)))
      have HZ8 := Lib.hid (HZ7.out.mods m1 hgb)
      clear hs h1 m1 hv7 H7 M7 HE7 HZ7 R7
      go_wp2_with (go_at_call 42; refine (intR B b N L8 _ H8.out HE8.out hb (Nat.le_trans hB M8.out.size)).mono ?_)
      rintro e z9 (⟨x9, L9, hs, rfl, h1, m1⟩ | ⟨hs, rfl, m1⟩)
      rotate_left
      · have HN := Lib.hid (bind_gone R8.out hs)
        have MN := Lib.hid (M8.out.then m1)
        clear hs m1
        go_wp2_with fail
        exact ⟨rfl, gives_no HN.out MN.out⟩
      obtain ⟨s8, hv8⟩ := rd_val hs
      have V8 := Lib.hid (pint_some hv8)
      have R9 := Lib.hid (bind_goes R8.out hs)
      have H9 := Lib.hid h1
      have M9 := Lib.hid (M8.out.then m1)
      have HE9 := Lib.hid (HE8.out.below (m1.low hb (Nat.le_trans hB M8.out.size)))
      have HZ9 := Lib.hid (HZ8.out.mods m1 hgb)
      clear hs h1 m1 hv8 H8 M8 HE8 HZ8 R8
      go_wp2_with (go_at_call 42; refine (intR B b N L9 _ H9.out HE9.out hb (Nat.le_trans hB M9.out.size)).mono ?_)
      rintro e z10 (⟨x10, L10, hs, rfl, h1, m1⟩ | ⟨hs, rfl, m1⟩)
      rotate_left
      · have HN := Lib.hid (bind_gone R9.out hs)
        have MN := Lib.hid (M9.out.then m1)
        clear hs m1
        go_wp2_with fail
        exact ⟨rfl, gives_no HN.out MN.out⟩
      obtain ⟨s9, hv9⟩ := rd_val hs
      have V9 := Lib.hid (pint_some hv9)
      have R10 := Lib.hid (bind_goes R9.out hs)
      have H10 := Lib.hid h1
      have M10 := Lib.hid (M9.out.then m1)
      have HE10 := Lib.hid (HE9.out.below (m1.low hb (Nat.le_trans hB M9.out.size)))
      have HZ10 := Lib.hid (HZ9.out.mods m1 hgb)
      clear hs h1 m1 hv9 H9 M9 HE9 HZ9 R9
      have HY : Hid (oc = some (⟨x1, x2, x3, x4, x5, x6, x7, x8, x9, x10⟩, L10)) := Lib.hid R10.out
      have hbr : Hid (Blk (z10.setRow w.heap.size #[.int .i64 x1, .int .i64 x2, .int .i64 x3, .int .i64 x4, .int .i64 x5, .int .i64 x6, .int .i64 x7, .int .i64 x8, .int .i64 x9, .int .i64 x10]) w.heap.size 23 #[.int .i64 x1, .int .i64 x2, .int .i64 x3, .int .i64 x4, .int .i64 x5, .int .i64 x6, .int .i64 x7, .int .i64 x8, .int .i64 x9, .int .i64 x10]) := Lib.hid (HZ10.out.setRow _)
      have HR10 : Hid (RdAt (z10.setRow w.heap.size #[.int .i64 x1, .int .i64 x2, .int .i64 x3, .int .i64 x4, .int .i64 x5, .int .i64 x6, .int .i64 x7, .int .i64 x8, .int .i64 x9, .int .i64 x10]) b N L10) := Lib.hid (H10.out.setRow hgb hN _)
      have MR10 := Lib.hid (M10.out.setRow w.heap.size (.inr (Nat.le_refl _)) #[.int .i64 x1, .int .i64 x2, .int .i64 x3, .int .i64 x4, .int .i64 x5, .int .i64 x6, .int .i64 x7, .int .i64 x8, .int .i64 x9, .int .i64 x10])
      go_wp2_with (refine wpList_store_row rfl 23 (.tmp 2) (.tmp 28) rfl w.heap.size #[.int .i64 x1, .int .i64 x2, .int .i64 x3, .int .i64 x4, .int .i64 x5, .int .i64 x6, .int .i64 x7, .int .i64 x8, .int .i64 x9, .int .i64 x10] rfl rfl _ _ HZ10.out set_size' rfl (by simp [Value.oneCell']) ?_)
      have y0 := hbr.out.cell 0 rfl
      have y1 := hbr.out.cell 1 rfl
      have y2 := hbr.out.cell 2 rfl
      have y3 := hbr.out.cell 3 rfl
      have y4 := hbr.out.cell 4 rfl
      have y5 := hbr.out.cell 5 rfl
      have y6 := hbr.out.cell 6 rfl
      have y7 := hbr.out.cell 7 rfl
      have y8 := hbr.out.cell 8 rfl
      have y9 := hbr.out.cell 9 rfl
      refine bodyPost_ret (v := .agg #[.int .i64 x1, .int .i64 x2, .int .i64 x3, .int .i64 x4, .int .i64 x5, .int .i64 x6, .int .i64 x7, .int .i64 x8, .int .i64 x9, .int .i64 x10]) (by simp [results, Tryd.results72, go_sem, y0, y1, y2, y3, y4, y5, y6, y7, y8, y9]) rfl ?_
      exact gives_yes HY.out rfl HR10.out MR10.out
    · have hsb : (s == [115, 101, 116, 116, 105, 110, 103]) = false := beq_eq_false_iff_ne.2 hs
      have HN := Lib.hid (bind_gone R9.out (rd_none (show isWord setWord s = none by simp only [isWord]; exact if_neg hs) t))
      clear hs R9
      go_enter Tryd.func72, Tryd.ntmps72
      go_wp2_with (first
        | (go_at_call 40; refine (nextYes b N _ t _ H9.out).mono ?_))
      first | rintro e w1 ⟨rfl, h1, m1⟩ | rintro e w1 rfl h1 m1
      have M0 := Lib.hid (M9.out.then m1)
      clear h1 m1 H9 M9 HE9 HZ9
      go_wp2_with (go_at_call 41; with_reducible refine (needF _ _).mono ?_)
      rintro e w2 ⟨rfl, rfl⟩
      go_wp2_with fail
      exact ⟨rfl, gives_no HN.out M0.out⟩
end Go.Proofs.YtcinohmhhglpjaaDoor
