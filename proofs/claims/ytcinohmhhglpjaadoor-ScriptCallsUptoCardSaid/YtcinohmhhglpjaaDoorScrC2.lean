/- Contracts of package script's reader: key, command. -/
import Derived.Test.YtcinohmhhglpjaaDoorScrH
namespace Go.Proofs.YtcinohmhhglpjaaDoor
open Go.RowKit

theorem cut_x (r : List UInt8) : Lib.trimPrefix (120 :: r) [120] = r ∧ Lib.hasPrefix (120 :: r) [120] = true := by
  constructor
  · simp [Lib.trimPrefix, Lib.hasPrefix]
  · simp [Lib.hasPrefix]
theorem cut_no {s : List UInt8} (h : ∀ r, s ≠ 120 :: r) : Lib.trimPrefix s [120] = s ∧ Lib.hasPrefix s [120] = false := by
  have e : Lib.hasPrefix s [120] = false := by
    cases s with
    | nil => rfl
    | cons c r =>
      simp only [Lib.hasPrefix, List.isPrefixOf, Bool.and_true]
      rw [beq_eq_false_iff_ne]
      rintro rfl
      exact h r rfl
  exact ⟨by unfold Lib.trimPrefix; rw [e]; rfl, e⟩
theorem cutYes (r : List UInt8) (w : World) : Calls Tryd.prog 68 #[.string ⟨(120 :: r).toArray⟩, .string ⟨#[120]⟩] w fun e w' => e = .returned (.tuple #[.string ⟨r.toArray⟩, .bool true]) ∧ w' = w := by
  refine (Tryd.strings_CutPrefix _ _ _).mono ?_
  rintro e w' ⟨rfl, rfl⟩
  have h1 := (cut_x r).1
  have h2 := (cut_x r).2
  refine ⟨?_, rfl⟩
  show Ending.returned (.tuple #[.string ⟨(Lib.trimPrefix (120 :: r) [120]).toArray⟩, .bool (Lib.hasPrefix (120 :: r) [120])]) = _
  rw [h1, h2]
theorem cutNo {s : List UInt8} (h : ∀ r, s ≠ 120 :: r) (w : World) : Calls Tryd.prog 68 #[.string ⟨s.toArray⟩, .string ⟨#[120]⟩] w fun e w' => e = .returned (.tuple #[.string ⟨s.toArray⟩, .bool false]) ∧ w' = w := by
  refine (Tryd.strings_CutPrefix _ _ _).mono ?_
  rintro e w' ⟨rfl, rfl⟩
  have h1 := (cut_no h).1
  have h2 := (cut_no h).2
  refine ⟨?_, rfl⟩
  show Ending.returned (.tuple #[.string ⟨(Lib.trimPrefix s [120]).toArray⟩, .bool (Lib.hasPrefix s [120])]) = _
  rw [h1, h2]
theorem pkey_no {s : List UInt8} (h : ∀ r, s ≠ 120 :: r) : pkey s = none := by
  cases e : pkey s with
  | none => rfl
  | some t => exact absurd (pkey_some e).1.symm (h _)
theorem pkey_bad' {r : List UInt8} (h : unhex r = none) : pkey (120 :: r) = none := by simp [pkey, h]
theorem pkey_long {r k : List UInt8} (h : unhex r = some k) (hk : ¬ k.length ≤ 64) : pkey (120 :: r) = none := by simp only [pkey, if_true, h]; rw [if_neg hk]
theorem pkey_yes {r k : List UInt8} (h : unhex r = some k) (hk : k.length ≤ 64) : pkey (120 :: r) = some k := by simp only [pkey, if_true, h]; rw [if_pos hk]
theorem is_x (s : List UInt8) : (∃ r, s = 120 :: r) ∨ ∀ r, s ≠ 120 :: r := by
  by_cases h : ∃ r, s = 120 :: r
  · exact .inl h
  · exact .inr fun r e => h ⟨r, e⟩

set_option maxRecDepth 20000 in
set_option maxHeartbeats 400000 in
theorem keyR (B b N : Nat) (L : List (List UInt8)) (w : World) (h : RdAt w b N L) (hE : EnvR B w) (hb : B ≤ b) (hB : B ≤ w.heap.size) :
    Calls Tryd.prog 53 #[.pointer (some ⟨b, 0, none⟩)] w (Gives (rd pkey L) (fun s => .string ⟨s.toArray⟩) b N w) := by
  have hwl : ∀ s ∈ L, s.length ≤ 140737488351232 := by obtain ⟨A, c, _, _, _, _, h5, _⟩ := h; exact h5
  have HWL := Lib.hid hwl
  have C := Lib.hid (nextR b N L w h)
  clear h hE hwl
  go_enter Tryd.func53, Tryd.ntmps53
  go_wp2_with (go_at_call 40; refine C.out.mono ?_)
  rintro e w1 (⟨s, t, hs, rfl, h1, m1⟩ | ⟨hs, rfl, m1⟩)
  · obtain rfl := rd_next hs
    have hsl := HWL.out s (List.mem_cons_self ..)
    have H1 := Lib.hid h1
    have M1 := Lib.hid m1
    clear h1 m1 hs C HWL
    rcases is_x s with ⟨r, rfl⟩ | hx
    · have hrl : r.length ≤ 140737488351232 := by simp at hsl; omega
      have HCP := Lib.hid (cutYes r w1)
      clear hsl
      go_wp2_with (go_at_call 68; refine HCP.out.mono ?_)
      rintro e w2 ⟨rfl, rfl⟩
      go_wp2_with (go_at_call 69; refine (unhexC r hrl _).mono ?_)
      rintro e w3 ⟨hb3, ⟨k, A, c, hk, rfl, ho⟩ | ⟨hk, rfl⟩⟩
      · have H3 := Lib.hid (H1.out.below hb3)
        have M3 := Lib.hid (M1.out.below hb3)
        have hcv := convB c ho.rb
        by_cases hkl : k.length ≤ 64
        · have hd : decide ((k.length : Int) ≤ 64) = true := by simp; omega
          have HR : Hid (rd pkey ((120 :: r) :: t) = some (k, t)) := Lib.hid (rd_cons (pkey_yes hk hkl) t)
          clear hk hb3 H1 M1 ho
          go_wp2_with (go_at_call 41; with_reducible refine (needT _ _).mono ?_)
          rintro e w4 ⟨rfl, rfl⟩
          go_wp2_with fail
          go_ret
          exact gives_yes HR.out rfl H3.out M3.out
        · have hd : decide ((k.length : Int) ≤ 64) = false := by simp; omega
          have HR : Hid (rd pkey ((120 :: r) :: t) = none) := Lib.hid (rd_none (pkey_long hk hkl) t)
          clear hk hb3 H1 M1 ho hcv
          go_wp2_with (go_at_call 41; with_reducible refine (needF _ _).mono ?_)
          rintro e w4 ⟨rfl, rfl⟩
          go_wp2_with fail
          exact ⟨rfl, gives_no HR.out M3.out⟩
      · have HR : Hid (rd pkey ((120 :: r) :: t) = none) := Lib.hid (rd_none (pkey_bad' hk) t)
        have M3 := Lib.hid (M1.out.below hb3)
        clear hk hb3 H1 M1
        go_wp2_with (go_at_call 41; with_reducible refine (needF _ _).mono ?_)
        rintro e w4 ⟨rfl, rfl⟩
        go_wp2_with fail
        exact ⟨rfl, gives_no HR.out M3.out⟩
    · have HR : Hid (rd pkey (s :: t) = none) := Lib.hid (rd_none (pkey_no hx) t)
      have HCP := Lib.hid (cutNo hx w1)
      clear hx
      go_wp2_with (go_at_call 68; refine HCP.out.mono ?_)
      rintro e w2 ⟨rfl, rfl⟩
      go_wp2_with (go_at_call 69; refine (unhexC s hsl _).mono ?_)
      rintro e w3 ⟨hb3, ⟨k, A, c, hk, rfl, ho⟩ | ⟨hk, rfl⟩⟩
      · have M3 := Lib.hid (M1.out.below hb3)
        clear hk hb3 H1 M1 ho
        go_wp2_with (go_at_call 41; with_reducible refine (needF _ _).mono ?_)
        rintro e w4 ⟨rfl, rfl⟩
        go_wp2_with fail
        exact ⟨rfl, gives_no HR.out M3.out⟩
      · have M3 := Lib.hid (M1.out.below hb3)
        clear hk hb3 H1 M1
        go_wp2_with (go_at_call 41; with_reducible refine (needF _ _).mono ?_)
        rintro e w4 ⟨rfl, rfl⟩
        go_wp2_with fail
        exact ⟨rfl, gives_no HR.out M3.out⟩
  · obtain rfl := rd_nil hs
    go_wp2_with fail
    exact ⟨rfl, gives_no rfl m1⟩

theorem bind_gone {α β : Type} {m : Rd α} {f : α → Rd β} {l : List (List UInt8)} {o : Option (β × List (List UInt8))} (h : o = Rd.bind m f l) (hm : m l = none) : o = none := h.trans (Rd.bind_none hm)
theorem bind_goes {α β : Type} {m : Rd α} {f : α → Rd β} {l r : List (List UInt8)} {x : α} {o : Option (β × List (List UInt8))} (h : o = Rd.bind m f l) (hm : m l = some (x, r)) : o = f x r := h.trans (Rd.bind_some hm)
theorem rd_val {α : Type} {p : List UInt8 → Option α} {l r : List (List UInt8)} {x : α} (h : rd p l = some (x, r)) : ∃ s, p s = some x := by
  obtain ⟨s, _, h⟩ := rd_eq h
  exact ⟨s, h⟩
theorem laid_row' (w : World) (cs ds : Array Value) (T : TypeId) : Below w.heap.size w ((w.alloc (.cells cs T)).setRow w.heap.size ds) ∧ Blk ((w.alloc (.cells cs T)).setRow w.heap.size ds) w.heap.size T ds := by
  have h1 : Below w.heap.size w (w.alloc (.cells cs T)) := (Below.refl _ _).alloc (Nat.le_refl _) _
  exact ⟨⟨h1.os, h1.tape, h1.output, by simp, fun j hj => (Go.setRow_other _ _ _ _ (by omega)).trans (h1.block j hj)⟩, (Blk.new w cs T).setRow ds⟩
theorem command_size : (Tryd.prog.info? 33).map (·.size) = some 7 := by kernel_rfl

set_option maxRecDepth 20000 in
set_option maxHeartbeats 4000000 in
theorem commandR (B b N : Nat) (L : List (List UInt8)) (w : World) (h : RdAt w b N L) (hE : EnvR B w) (hb : B ≤ b) (hB : B ≤ w.heap.size) (hN : N ≤ w.heap.size) :
    Calls Tryd.prog 44 #[.pointer (some ⟨b, 0, none⟩)] w (Gives (rdCmd L) (fun c => .agg c.cells.toArray) b N w) := by
  have hgb : w.heap.size ≠ b := by have := h.lt; omega
  have hal : Below w.heap.size w (w.alloc (.cells #[.int .u64 0, .int .u64 0, .int .i64 0, .string ⟨#[]⟩, .int .i64 0, .int .i64 0, .int .u64 0] 33)) := (Below.refl _ _).alloc (Nat.le_refl _) _
  have HZ0 := Lib.hid (Blk.new w #[.int .u64 0, .int .u64 0, .int .i64 0, .string ⟨#[]⟩, .int .i64 0, .int .i64 0, .int .u64 0] 33)
  have H0 := Lib.hid (h.below hal)
  have M0 := Lib.hid (Mods.of_below (S := (· = b)) hal)
  have HE0 := Lib.hid (hE.below (hal.mono hB))
  obtain ⟨oc, hoc⟩ : ∃ oc, oc = rdCmd L := ⟨_, rfl⟩
  rw [← hoc]
  unfold rdCmd at hoc
  have R0 := Lib.hid hoc
  clear hoc
  clear h hE hal
  go_enter Tryd.func44, Tryd.ntmps44
  go_wp2_with (go_at_call 43; refine (numR B b N L _ H0.out HE0.out hb (Nat.le_trans hB M0.out.size)).mono ?_)
  rintro e w1 (⟨x0, L1, hs, rfl, h1, m1⟩ | ⟨hs, rfl, m1⟩)
  rotate_left
  · have HN := Lib.hid (bind_gone R0.out hs)
    have MN := Lib.hid (M0.out.then m1)
    clear hs m1
    go_wp2_with fail
    exact ⟨rfl, gives_no HN.out MN.out⟩
  obtain ⟨s0, hv0⟩ := rd_val hs
  have V0 := Lib.hid (pnum_some hv0)
  have R1 := Lib.hid (bind_goes R0.out hs)
  have H1 := Lib.hid h1
  have M1 := Lib.hid (M0.out.then m1)
  have HE1 := Lib.hid (HE0.out.below (m1.low hb (Nat.le_trans hB M0.out.size)))
  have HZ1 := Lib.hid (HZ0.out.mods m1 hgb)
  clear hs h1 m1 hv0 H0 M0 HE0 HZ0 R0
  go_wp2_with (go_at_call 43; refine (numR B b N L1 _ H1.out HE1.out hb (Nat.le_trans hB M1.out.size)).mono ?_)
  rintro e w2 (⟨x1, L2, hs, rfl, h1, m1⟩ | ⟨hs, rfl, m1⟩)
  rotate_left
  · have HN := Lib.hid (bind_gone R1.out hs)
    have MN := Lib.hid (M1.out.then m1)
    clear hs m1
    go_wp2_with fail
    exact ⟨rfl, gives_no HN.out MN.out⟩
  obtain ⟨s1, hv1⟩ := rd_val hs
  have V1 := Lib.hid (pnum_some hv1)
  have R2 := Lib.hid (bind_goes R1.out hs)
  have H2 := Lib.hid h1
  have M2 := Lib.hid (M1.out.then m1)
  have HE2 := Lib.hid (HE1.out.below (m1.low hb (Nat.le_trans hB M1.out.size)))
  have HZ2 := Lib.hid (HZ1.out.mods m1 hgb)
  clear hs h1 m1 hv1 H1 M1 HE1 HZ1 R1
  go_wp2_with (go_at_call 42; refine (intR B b N L2 _ H2.out HE2.out hb (Nat.le_trans hB M2.out.size)).mono ?_)
  rintro e w3 (⟨x2, L3, hs, rfl, h1, m1⟩ | ⟨hs, rfl, m1⟩)
  rotate_left
  · have HN := Lib.hid (bind_gone R2.out hs)
    have MN := Lib.hid (M2.out.then m1)
    clear hs m1
    go_wp2_with fail
    exact ⟨rfl, gives_no HN.out MN.out⟩
  obtain ⟨s2, hv2⟩ := rd_val hs
  have V2 := Lib.hid (pint_some hv2)
  have R3 := Lib.hid (bind_goes R2.out hs)
  have H3 := Lib.hid h1
  have M3 := Lib.hid (M2.out.then m1)
  have HE3 := Lib.hid (HE2.out.below (m1.low hb (Nat.le_trans hB M2.out.size)))
  have HZ3 := Lib.hid (HZ2.out.mods m1 hgb)
  clear hs h1 m1 hv2 H2 M2 HE2 HZ2 R2
  go_wp2_with (go_at_call 53; refine (keyR B b N L3 _ H3.out HE3.out hb (Nat.le_trans hB M3.out.size)).mono ?_)
  rintro e w4 (⟨x3, L4, hs, rfl, h1, m1⟩ | ⟨hs, rfl, m1⟩)
  rotate_left
  · have HN := Lib.hid (bind_gone R3.out hs)
    have MN := Lib.hid (M3.out.then m1)
    clear hs m1
    go_wp2_with fail
    exact ⟨rfl, gives_no HN.out MN.out⟩
  obtain ⟨s3, hv3⟩ := rd_val hs
  have V3 := Lib.hid (pkey_some hv3)
  have R4 := Lib.hid (bind_goes R3.out hs)
  have H4 := Lib.hid h1
  have M4 := Lib.hid (M3.out.then m1)
  have HE4 := Lib.hid (HE3.out.below (m1.low hb (Nat.le_trans hB M3.out.size)))
  have HZ4 := Lib.hid (HZ3.out.mods m1 hgb)
  clear hs h1 m1 hv3 H3 M3 HE3 HZ3 R3
  go_wp2_with (go_at_call 42; refine (intR B b N L4 _ H4.out HE4.out hb (Nat.le_trans hB M4.out.size)).mono ?_)
  rintro e w5 (⟨x4, L5, hs, rfl, h1, m1⟩ | ⟨hs, rfl, m1⟩)
  rotate_left
  · have HN := Lib.hid (bind_gone R4.out hs)
    have MN := Lib.hid (M4.out.then m1)
    clear hs m1
    go_wp2_with fail
    exact ⟨rfl, gives_no HN.out MN.out⟩
  obtain ⟨s4, hv4⟩ := rd_val hs
  have V4 := Lib.hid (pint_some hv4)
  have R5 := Lib.hid (bind_goes R4.out hs)
  have H5 := Lib.hid h1
  have M5 := Lib.hid (M4.out.then m1)
  have HE5 := Lib.hid (HE4.out.below (m1.low hb (Nat.le_trans hB M4.out.size)))
  have HZ5 := Lib.hid (HZ4.out.mods m1 hgb)
  clear hs h1 m1 hv4 H4 M4 HE4 HZ4 R4
  go_wp2_with (go_at_call 42; refine (intR B b N L5 _ H5.out HE5.out hb (Nat.le_trans hB M5.out.size)).mono ?_)
  rintro e w6 (⟨x5, L6, hs, rfl, h1, m1⟩ | ⟨hs, rfl, m1⟩)
  rotate_left
  · have HN := Lib.hid (bind_gone R5.out hs)
    have MN := Lib.hid (M5.out.then m1)
    clear hs m1
    go_wp2_with fail
    exact ⟨rfl, gives_no HN.out MN.out⟩
  obtain ⟨s5, hv5⟩ := rd_val hs
  have V5 := Lib.hid (pint_some hv5)
  have R6 := Lib.hid (bind_goes R5.out hs)
  have H6 := Lib.hid h1
  have M6 := Lib.hid (M5.out.then m1)
  have HE6 := Lib.hid (HE5.out.below (m1.low hb (Nat.le_trans hB M5.out.size)))
  have HZ6 := Lib.hid (HZ5.out.mods m1 hgb)
  clear hs h1 m1 hv5 H5 M5 HE5 HZ5 R5
  go_wp2_with (go_at_call 43; refine (numR B b N L6 _ H6.out HE6.out hb (Nat.le_trans hB M6.out.size)).mono ?_)
  rintro e w7 (⟨x6, L7, hs, rfl, h1, m1⟩ | ⟨hs, rfl, m1⟩)
  rotate_left
  · have HN := Lib.hid (bind_gone R6.out hs)
    have MN := Lib.hid (M6.out.then m1)
    clear hs m1
    go_wp2_with fail
    exact ⟨rfl, gives_no HN.out MN.out⟩
  obtain ⟨s6, hv6⟩ := rd_val hs
  have V6 := Lib.hid (pnum_some hv6)
  have R7 := Lib.hid (bind_goes R6.out hs)
  have H7 := Lib.hid h1
  have M7 := Lib.hid (M6.out.then m1)
  have HE7 := Lib.hid (HE6.out.below (m1.low hb (Nat.le_trans hB M6.out.size)))
  have HZ7 := Lib.hid (HZ6.out.mods m1 hgb)
  clear hs h1 m1 hv6 H6 M6 HE6 HZ6 R6
  have hwf : Cm.wf ⟨x0, x1, x2, x3, x4, x5, x6⟩ := ⟨V0.out.2.1, V0.out.2.2, V1.out.2.1, V1.out.2.2, V2.out.2.1, V2.out.2.2, V4.out.2.1, V4.out.2.2, V5.out.2.1, V5.out.2.2, V6.out.2.1, V6.out.2.2, by have := V3.out.2; simp only; omega⟩
  have CC := Lib.hid (scrCommanded ⟨x0, x1, x2, x3, x4, x5, x6⟩ hwf)
  unfold Cm.cells at CC
  simp only at CC
  clear hwf V0 V1 V2 V3 V4 V5 V6
  have HZN := Lib.hid (Blk.new w7 #[.int .u64 0, .int .u64 0, .int .i64 0, .string ⟨#[]⟩, .int .i64 0, .int .i64 0, .int .u64 0] 33)
  have hne : w.heap.size < w7.heap.size := HZ7.out.lt
  have hba : Below w7.heap.size w7 ((w7.alloc (.cells #[.int .u64 0, .int .u64 0, .int .i64 0, .string ⟨#[]⟩, .int .i64 0, .int .i64 0, .int .u64 0] 33)).setRow w7.heap.size #[.int .u64 x0, .int .u64 x1, .int .i64 x2, .string ⟨x3.toArray⟩, .int .i64 x4, .int .i64 x5, .int .u64 x6]) ∧ Blk ((w7.alloc (.cells #[.int .u64 0, .int .u64 0, .int .i64 0, .string ⟨#[]⟩, .int .i64 0, .int .i64 0, .int .u64 0] 33)).setRow w7.heap.size #[.int .u64 x0, .int .u64 x1, .int .i64 x2, .string ⟨x3.toArray⟩, .int .i64 x4, .int .i64 x5, .int .u64 x6]) w7.heap.size 33 #[.int .u64 x0, .int .u64 x1, .int .i64 x2, .string ⟨x3.toArray⟩, .int .i64 x4, .int .i64 x5, .int .u64 x6] := laid_row' _ _ _ _
  have H8 := Lib.hid (H7.out.below hba.1)
  have M8 := Lib.hid (M7.out.below hba.1)
  have HZ8 := Lib.hid (HZ7.out.kept hba.1)
  have HX8 := Lib.hid hba.2
  clear hba H7 M7 HZ7 HE7
  go_wp2_with (refine wpList_store_row rfl 33 (.tmp 3) (.tmp 18) rfl w7.heap.size #[.int .u64 x0, .int .u64 x1, .int .i64 x2, .string ⟨x3.toArray⟩, .int .i64 x4, .int .i64 x5, .int .u64 x6] rfl rfl _ _ HZN.out command_size rfl (by simp [Value.oneCell']) ?_; have q0 := HX8.out.cell 0 rfl; have q1 := HX8.out.cell 1 rfl; have q2 := HX8.out.cell 2 rfl; have q3 := HX8.out.cell 3 rfl; have q4 := HX8.out.cell 4 rfl; have q5 := HX8.out.cell 5 rfl; have q6 := HX8.out.cell 6 rfl)
  generalize ((w7.alloc (.cells #[.int .u64 0, .int .u64 0, .int .i64 0, .string ⟨#[]⟩, .int .i64 0, .int .i64 0, .int .u64 0] 33)).setRow w7.heap.size #[.int .u64 x0, .int .u64 x1, .int .i64 x2, .string ⟨x3.toArray⟩, .int .i64 x4, .int .i64 x5, .int .u64 x6]) = w8 at *
  refine (CC.out _).mono ?_
  rintro e w9 ⟨rfl, hb9⟩
  have H9 := Lib.hid (H8.out.below hb9)
  have M9 := Lib.hid (M8.out.below hb9)
  have HZ9 := Lib.hid (HZ8.out.kept hb9)
  have HX9 := Lib.hid (HX8.out.kept hb9)
  clear hb9 H8 M8 HZ8 HX8 CC HZN q0 q1 q2 q3 q4 q5 q6
  cases hok : Cm.ok ⟨x0, x1, x2, x3, x4, x5, x6⟩
  · have HN := Lib.hid (bind_gone R7.out (by simp [Rd.need, hok]))
    clear hok
    go_wp2_with (go_at_call 41; with_reducible refine (needF _ _).mono ?_)
    rintro e w10 ⟨rfl, rfl⟩
    go_wp2_with fail
    exact ⟨rfl, gives_no HN.out M9.out⟩
  · have HY : Hid (oc = some (⟨x0, x1, x2, x3, x4, x5, x6⟩, L7)) := Lib.hid (bind_goes R7.out (show Rd.need _ L7 = some ((), L7) by simp [Rd.need, hok]))
    clear hok
    go_wp2_with (go_at_call 41; with_reducible refine (needT _ _).mono ?_)
    rintro e w10 ⟨rfl, rfl⟩
    have hbr : Hid (Blk (w10.setRow w.heap.size #[.int .u64 x0, .int .u64 x1, .int .i64 x2, .string ⟨x3.toArray⟩, .int .i64 x4, .int .i64 x5, .int .u64 x6]) w.heap.size 33 #[.int .u64 x0, .int .u64 x1, .int .i64 x2, .string ⟨x3.toArray⟩, .int .i64 x4, .int .i64 x5, .int .u64 x6]) := Lib.hid (HZ9.out.setRow _)
    have H10 : Hid (RdAt (w10.setRow w.heap.size #[.int .u64 x0, .int .u64 x1, .int .i64 x2, .string ⟨x3.toArray⟩, .int .i64 x4, .int .i64 x5, .int .u64 x6]) b N L7) := Lib.hid (H9.out.setRow hgb hN _)
    have M10 := Lib.hid (M9.out.setRow w.heap.size (.inr (Nat.le_refl _)) #[.int .u64 x0, .int .u64 x1, .int .i64 x2, .string ⟨x3.toArray⟩, .int .i64 x4, .int .i64 x5, .int .u64 x6])
    have q0 := HX9.out.cell 0 rfl
    have q1 := HX9.out.cell 1 rfl
    have q2 := HX9.out.cell 2 rfl
    have q3 := HX9.out.cell 3 rfl
    have q4 := HX9.out.cell 4 rfl
    have q5 := HX9.out.cell 5 rfl
    have q6 := HX9.out.cell 6 rfl
    go_wp2_with (refine wpList_store_row rfl 33 (.tmp 2) (.tmp 23) rfl w.heap.size #[.int .u64 x0, .int .u64 x1, .int .i64 x2, .string ⟨x3.toArray⟩, .int .i64 x4, .int .i64 x5, .int .u64 x6] rfl rfl _ _ HZ9.out command_size rfl (by simp [Value.oneCell']) ?_)
    have y0 := hbr.out.cell 0 rfl
    have y1 := hbr.out.cell 1 rfl
    have y2 := hbr.out.cell 2 rfl
    have y3 := hbr.out.cell 3 rfl
    have y4 := hbr.out.cell 4 rfl
    have y5 := hbr.out.cell 5 rfl
    have y6 := hbr.out.cell 6 rfl
    refine bodyPost_ret (v := .agg #[.int .u64 x0, .int .u64 x1, .int .i64 x2, .string ⟨x3.toArray⟩, .int .i64 x4, .int .i64 x5, .int .u64 x6]) (by simp [results, Tryd.results44, go_sem, y0, y1, y2, y3, y4, y5, y6]) rfl ?_
    exact gives_yes HY.out rfl H10.out M10.out
end Go.Proofs.YtcinohmhhglpjaaDoor
