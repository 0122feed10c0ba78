/- What a call's line says: the word 'call'; all (printed by gen_scrwcall.py). -/
import Derived.Test.YtcinohmhhglpjaaDoorScrWc
namespace Go.Proofs.YtcinohmhhglpjaaDoor
open Go.RowKit

set_option maxRecDepth 20000 in
set_option maxHeartbeats 8000000 in
theorem whatCallCall (B b N : Nat) (t : List (List UInt8)) (w : World) (h : RdAt w b N ([99, 97, 108, 108] :: t)) (hE : EnvR B w) (hb : B ≤ b) (hB : B ≤ w.heap.size) (hN : N ≤ w.heap.size) :
    Calls Tryd.prog 52 #[.pointer (some ⟨b, 0, none⟩)] w (Gives (rdCall ([99, 97, 108, 108] :: t)) (fun c => .agg c.cells.toArray) b N w) := by
  have hgb : w.heap.size ≠ b := by have := h.lt; omega
  have hal : Below w.heap.size w (w.alloc (.cells #[.int .i64 0, .bool false, .bool false, .int .u64 0, .int .u64 0, .int .i64 0, .string ⟨#[]⟩, .int .i64 0, .int .i64 0, .int .u64 0, .string ⟨#[]⟩, .int .i64 0, .int .i64 0, .int .u64 0, .int .u64 0, .int .i64 0, .int .u64 0, .int .i64 0, .int .i64 0, .int .i64 0, .int .i64 0] 48)) := (Below.refl _ _).alloc (Nat.le_refl _) _
  have HZ0 := Lib.hid (Blk.new w #[.int .i64 0, .bool false, .bool false, .int .u64 0, .int .u64 0, .int .i64 0, .string ⟨#[]⟩, .int .i64 0, .int .i64 0, .int .u64 0, .string ⟨#[]⟩, .int .i64 0, .int .i64 0, .int .u64 0, .int .u64 0, .int .i64 0, .int .u64 0, .int .i64 0, .int .i64 0, .int .i64 0, .int .i64 0] 48)
  have H0 := Lib.hid (h.below hal)
  have M0 := Lib.hid (Mods.of_below (S := (· = b)) hal)
  have HE0 := Lib.hid (hE.below (hal.mono hB))
  obtain ⟨oc, hoc⟩ : ∃ oc, oc = rdCall ([99, 97, 108, 108] :: t) := ⟨_, rfl⟩
  rw [← hoc]
  unfold rdCall at hoc
  have R0 := Lib.hid (bind_goes hoc (rd_cons (show some [99, 97, 108, 108] = some [99, 97, 108, 108] from rfl) t))
  have H9 := Lib.hid H0.out
  have M9 := Lib.hid M0.out
  have HE9 := Lib.hid HE0.out
  have HZ9 := Lib.hid HZ0.out
  clear hoc h hE hal H0 M0 HE0 HZ0
  go_enter Tryd.func52, Tryd.ntmps52
  go_wp2_with (go_at_call 40; refine (nextYes b N _ t _ H9.out).mono ?_)
  first | rintro e w1 ⟨rfl, h1, m1⟩ | rintro e w1 rfl h1 m1
  have H0 := Lib.hid h1
  have M0 := Lib.hid (M9.out.then m1)
  have HE0 := Lib.hid (HE9.out.below (m1.low hb (Nat.le_trans hB M9.out.size)))
  have HZ0 := Lib.hid (HZ9.out.mods m1 hgb)
  clear h1 m1 H9 M9 HE9 HZ9
  go_wp2_with (go_at_call 42; refine (intR B b N t _ H0.out HE0.out hb (Nat.le_trans hB M0.out.size)).mono ?_)
  rintro e z1 (⟨x1, L1, hs, rfl, h1, m1⟩ | ⟨hs, rfl, m1⟩)
  rotate_left
  · have HN := Lib.hid (bind_gone R0.out hs)
    have MN := Lib.hid (M0.out.then m1)
    clear hs m1
    go_wp2_with fail
    exact ⟨rfl, gives_no HN.out MN.out⟩
  obtain ⟨s0, hv0⟩ := rd_val hs
  have V0 := Lib.hid (pint_some hv0)
  have R1 := Lib.hid (bind_goes R0.out hs)
  have H1 := Lib.hid h1
  have M1 := Lib.hid (M0.out.then m1)
  have HE1 := Lib.hid (HE0.out.below (m1.low hb (Nat.le_trans hB M0.out.size)))
  have HZ1 := Lib.hid (HZ0.out.mods m1 hgb)
  clear hs h1 m1 hv0 H0 M0 HE0 HZ0 R0
  go_wp2_with (go_at_call 42; refine (intR B b N L1 _ H1.out HE1.out hb (Nat.le_trans hB M1.out.size)).mono ?_)
  rintro e z2 (⟨x2, L2, hs, rfl, h1, m1⟩ | ⟨hs, rfl, m1⟩)
  rotate_left
  · have HN := Lib.hid (bind_gone R1.out hs)
    have MN := Lib.hid (M1.out.then m1)
    clear hs m1
    go_wp2_with fail
    exact ⟨rfl, gives_no HN.out MN.out⟩
  obtain ⟨s1, hv1⟩ := rd_val hs
  have V1 := Lib.hid (pint_some hv1)
  have R2 := Lib.hid (bind_goes R1.out hs)
  have H2 := Lib.hid h1
  have M2 := Lib.hid (M1.out.then m1)
  have HE2 := Lib.hid (HE1.out.below (m1.low hb (Nat.le_trans hB M1.out.size)))
  have HZ2 := Lib.hid (HZ1.out.mods m1 hgb)
  clear hs h1 m1 hv1 H1 M1 HE1 HZ1 R1
  go_wp2_with (go_at_call 42; refine (intR B b N L2 _ H2.out HE2.out hb (Nat.le_trans hB M2.out.size)).mono ?_)
  rintro e z3 (⟨x3, L3, hs, rfl, h1, m1⟩ | ⟨hs, rfl, m1⟩)
  rotate_left
  · have HN := Lib.hid (bind_gone R2.out hs)
    have MN := Lib.hid (M2.out.then m1)
    clear hs m1
    go_wp2_with fail
    exact ⟨rfl, gives_no HN.out MN.out⟩
  obtain ⟨s2, hv2⟩ := rd_val hs
  have V2 := Lib.hid (pint_some hv2)
  have R3 := Lib.hid (bind_goes R2.out hs)
  have H3 := Lib.hid h1
  have M3 := Lib.hid (M2.out.then m1)
  have HE3 := Lib.hid (HE2.out.below (m1.low hb (Nat.le_trans hB M2.out.size)))
  have HZ3 := Lib.hid (HZ2.out.mods m1 hgb)
  clear hs h1 m1 hv2 H2 M2 HE2 HZ2 R2
  have R3' : Hid (oc = Rd.bind rdCmd (fun cmd => Rd.bind rdReply fun rep => Rd.ret ⟨x1, false, false, cmd, [], x2, x3, rep, 0, 0⟩) L3) := Lib.hid (by
    have := R3.out
    unfold rdTail at this
    rw [if_pos (show ([99, 97, 108, 108] : List UInt8) = wCall from rfl)] at this
    exact this)
  have hgG : z3.heap.size ≠ b := by have := H3.out.lt; omega
  have hG0 : w.heap.size < z3.heap.size := by have := HZ3.out.lt; omega
  have HNN := Lib.hid (Blk.new z3 #[.int .i64 0, .bool false, .bool false, .int .u64 0, .int .u64 0, .int .i64 0, .string ⟨#[]⟩, .int .i64 0, .int .i64 0, .int .u64 0, .string ⟨#[]⟩, .int .i64 0, .int .i64 0, .int .u64 0, .int .u64 0, .int .i64 0, .int .u64 0, .int .i64 0, .int .i64 0, .int .i64 0, .int .i64 0] 48)
  obtain ⟨hbg, hxg⟩ := laid_row z3 #[.int .i64 0, .bool false, .bool false, .int .u64 0, .int .u64 0, .int .i64 0, .string ⟨#[]⟩, .int .i64 0, .int .i64 0, .int .u64 0, .string ⟨#[]⟩, .int .i64 0, .int .i64 0, .int .u64 0, .int .u64 0, .int .i64 0, .int .u64 0, .int .i64 0, .int .i64 0, .int .i64 0, .int .i64 0] #[.int .i64 x1, .bool false, .bool false, .int .u64 0, .int .u64 0, .int .i64 0, .string ⟨#[]⟩, .int .i64 0, .int .i64 0, .int .u64 0, .string ⟨#[]⟩, .int .i64 x2, .int .i64 x3, .int .u64 0, .int .u64 0, .int .i64 0, .int .u64 0, .int .i64 0, .int .i64 0, .int .i64 0, .int .i64 0] 48
  have H3b := Lib.hid (H3.out.below hbg)
  have M3b := Lib.hid (M3.out.below hbg)
  have HE3b := Lib.hid (HE3.out.below (hbg.mono (Nat.le_trans hB M3.out.size)))
  have HZ3b := Lib.hid (HZ3.out.kept hbg)
  have HG3 := Lib.hid hxg
  clear H3 M3 HE3 HZ3 R3 hbg hxg
  obtain ⟨G, hG⟩ : ∃ G, G = z3.heap.size := ⟨_, rfl⟩
  rw [← hG] at hgG hG0
  have H3 := H3b
  have M3 := M3b
  have HE3 := HE3b
  have HZ3 := HZ3b
  have R3 := R3'
  clear H3b M3b HE3b HZ3b R3'
  go_wp2_with (refine wpList_store_row rfl 48 (.tmp 4) (.tmp 17) rfl z3.heap.size #[.int .i64 x1, .bool false, .bool false, .int .u64 0, .int .u64 0, .int .i64 0, .string ⟨#[]⟩, .int .i64 0, .int .i64 0, .int .u64 0, .string ⟨#[]⟩, .int .i64 x2, .int .i64 x3, .int .u64 0, .int .u64 0, .int .i64 0, .int .u64 0, .int .i64 0, .int .i64 0, .int .i64 0, .int .i64 0] rfl rfl _ _ HNN.out call_size rfl (by simp [Value.oneCell']) ?_; clear HNN; generalize ((z3.alloc (.cells #[.int .i64 0, .bool false, .bool false, .int .u64 0, .int .u64 0, .int .i64 0, .string ⟨#[]⟩, .int .i64 0, .int .i64 0, .int .u64 0, .string ⟨#[]⟩, .int .i64 0, .int .i64 0, .int .u64 0, .int .u64 0, .int .i64 0, .int .u64 0, .int .i64 0, .int .i64 0, .int .i64 0, .int .i64 0] 48)).setRow z3.heap.size #[.int .i64 x1, .bool false, .bool false, .int .u64 0, .int .u64 0, .int .i64 0, .string ⟨#[]⟩, .int .i64 0, .int .i64 0, .int .u64 0, .string ⟨#[]⟩, .int .i64 x2, .int .i64 x3, .int .u64 0, .int .u64 0, .int .i64 0, .int .u64 0, .int .i64 0, .int .i64 0, .int .i64 0, .int .i64 0]) = z3b at *; rw [← hG] at HG3; simp only [← hG]; clear hG; have g1 := HG3.out.cell 1 rfl)
  clear g1
  go_wp2_with (go_at_call 44; refine (commandR B b N L3 _ H3.out HE3.out hb (Nat.le_trans hB M3.out.size) (Nat.le_trans hN M3.out.size)).mono ?_)
  rintro e z4 (⟨x4, L4, hs, rfl, h1, m1⟩ | ⟨hs, rfl, m1⟩)
  rotate_left
  · have HN := Lib.hid (bind_gone R3.out hs)
    have MN := Lib.hid (M3.out.then m1)
    clear hs m1
    go_wp2_with fail
    exact ⟨rfl, gives_no HN.out MN.out⟩
  have R4 : Hid (oc = Rd.bind (rd pnum) (fun ses => Rd.bind (rd pnum) fun seq => Rd.bind (rd pnum) fun e => Rd.bind (rd pnum) fun lease => Rd.bind (rd pint) fun amount => Rd.bind (rd pint) fun til => Rd.ret ⟨x1, false, false, x4, [], x2, x3, ⟨ses, seq, toI e, lease, amount, til⟩, 0, 0⟩) L4) := Lib.hid (by
    have := bind_goes R3.out hs
    unfold rdReply at this
    simp only [Rd.bind_assoc, Rd.ret_bind] at this
    exact this)
  have hgv : w.heap.size ≠ G := by omega
  have HGa := HG3.out.mods m1 hgG
  have hth := HGa.there (o := 3) (n := 7) (by simp)
  have hpG : G = b ∨ w.heap.size ≤ G := .inr (by omega)
  have H4 := Lib.hid (RdAt.setCells hgG (by omega) [.int .u64 x4.ses, .int .u64 x4.seq, .int .i64 x4.op, .string ⟨x4.key.toArray⟩, .int .i64 x4.amount, .int .i64 x4.span, .int .u64 x4.lease] 3 h1)
  have M4 := Lib.hid (Mods.setCells (P := (· = b)) (g := G) hpG [.int .u64 x4.ses, .int .u64 x4.seq, .int .i64 x4.op, .string ⟨x4.key.toArray⟩, .int .i64 x4.amount, .int .i64 x4.span, .int .u64 x4.lease] 3 (M3.out.then m1))
  have HE4 := Lib.hid (Env.cells HE3.out (by omega) (Nat.le_trans hB M3.out.size) [.int .u64 x4.ses, .int .u64 x4.seq, .int .i64 x4.op, .string ⟨x4.key.toArray⟩, .int .i64 x4.amount, .int .i64 x4.span, .int .u64 x4.lease] 3 (m1.low hb (Nat.le_trans hB M3.out.size)) (g := G))
  have HZ4 := Lib.hid (Blk.setCells_other hgv [.int .u64 x4.ses, .int .u64 x4.seq, .int .i64 x4.op, .string ⟨x4.key.toArray⟩, .int .i64 x4.amount, .int .i64 x4.span, .int .u64 x4.lease] 3 (HZ3.out.mods m1 hgb))
  have HG4 : Hid (Blk (z4.setCells G 3 [.int .u64 x4.ses, .int .u64 x4.seq, .int .i64 x4.op, .string ⟨x4.key.toArray⟩, .int .i64 x4.amount, .int .i64 x4.span, .int .u64 x4.lease]) G 48 #[.int .i64 x1, .bool false, .bool false, .int .u64 x4.ses, .int .u64 x4.seq, .int .i64 x4.op, .string ⟨x4.key.toArray⟩, .int .i64 x4.amount, .int .i64 x4.span, .int .u64 x4.lease, .string ⟨#[]⟩, .int .i64 x2, .int .i64 x3, .int .u64 0, .int .u64 0, .int .i64 0, .int .u64 0, .int .i64 0, .int .i64 0, .int .i64 0, .int .i64 0]) := Lib.hid (by have := Blk.setCells [.int .u64 x4.ses, .int .u64 x4.seq, .int .i64 x4.op, .string ⟨x4.key.toArray⟩, .int .i64 x4.amount, .int .i64 x4.span, .int .u64 x4.lease] 3 HGa; simpa only [putAll, List.setIfInBounds_toArray, List.set_cons_zero, List.set_cons_succ] using this)
  clear hs h1 m1 H3 M3 HE3 HZ3 R3 HG3 HGa
  unfold Cm.cells
  go_wp2_with (refine wpList_store_mid rfl 33 (.tmp 32) (.tmp 31) rfl G 3 #[.int .u64 x4.ses, .int .u64 x4.seq, .int .i64 x4.op, .string ⟨x4.key.toArray⟩, .int .i64 x4.amount, .int .i64 x4.span, .int .u64 x4.lease] rfl rfl hth command_size (by simp [Value.oneCell']) ?_; simp only [List.toList_toArray]; generalize z4.setCells G 3 [.int .u64 x4.ses, .int .u64 x4.seq, .int .i64 x4.op, .string ⟨x4.key.toArray⟩, .int .i64 x4.amount, .int .i64 x4.span, .int .u64 x4.lease] = z4b at *)
  go_wp2_with (go_at_call 43; refine (numR B b N L4 _ H4.out HE4.out hb (Nat.le_trans hB M4.out.size)).mono ?_)
  rintro e z5 (⟨x5, L5, hs, rfl, h1, m1⟩ | ⟨hs, rfl, m1⟩)
  rotate_left
  · have HN := Lib.hid (bind_gone R4.out hs)
    have MN := Lib.hid (M4.out.then m1)
    clear hs m1
    go_wp2_with fail
    exact ⟨rfl, gives_no HN.out MN.out⟩
  obtain ⟨s4, hv4⟩ := rd_val hs
  have V4 := Lib.hid (pnum_some hv4)
  have R5 := Lib.hid (bind_goes R4.out hs)
  have H5 := Lib.hid h1
  have M5 := Lib.hid (M4.out.then m1)
  have HE5 := Lib.hid (HE4.out.below (m1.low hb (Nat.le_trans hB M4.out.size)))
  have HZ5 := Lib.hid (HZ4.out.mods m1 hgb)
  have HG5 := Lib.hid (HG4.out.mods m1 hgG)
  clear hs h1 m1 hv4 H4 M4 HE4 HZ4 R4 HG4
  go_wp2_with (go_at_call 43; refine (numR B b N L5 _ H5.out HE5.out hb (Nat.le_trans hB M5.out.size)).mono ?_)
  rintro e z6 (⟨x6, L6, hs, rfl, h1, m1⟩ | ⟨hs, rfl, m1⟩)
  rotate_left
  · have HN := Lib.hid (bind_gone R5.out hs)
    have MN := Lib.hid (M5.out.then m1)
    clear hs m1
    go_wp2_with fail
    exact ⟨rfl, gives_no HN.out MN.out⟩
  obtain ⟨s5, hv5⟩ := rd_val hs
  have V5 := Lib.hid (pnum_some hv5)
  have R6 := Lib.hid (bind_goes R5.out hs)
  have H6 := Lib.hid h1
  have M6 := Lib.hid (M5.out.then m1)
  have HE6 := Lib.hid (HE5.out.below (m1.low hb (Nat.le_trans hB M5.out.size)))
  have HZ6 := Lib.hid (HZ5.out.mods m1 hgb)
  have HG6 := Lib.hid (HG5.out.mods m1 hgG)
  clear hs h1 m1 hv5 H5 M5 HE5 HZ5 R5 HG5
  go_wp2_with (go_at_call 43; refine (numR B b N L6 _ H6.out HE6.out hb (Nat.le_trans hB M6.out.size)).mono ?_)
  rintro e z7 (⟨x7, L7, hs, rfl, h1, m1⟩ | ⟨hs, rfl, m1⟩)
  rotate_left
  · have HN := Lib.hid (bind_gone R6.out hs)
    have MN := Lib.hid (M6.out.then m1)
    clear hs m1
    go_wp2_with fail
    exact ⟨rfl, gives_no HN.out MN.out⟩
  obtain ⟨s6, hv6⟩ := rd_val hs
  have V6 := Lib.hid (pnum_some hv6)
  have R7 := Lib.hid (bind_goes R6.out hs)
  have H7 := Lib.hid h1
  have M7 := Lib.hid (M6.out.then m1)
  have HE7 := Lib.hid (HE6.out.below (m1.low hb (Nat.le_trans hB M6.out.size)))
  have HZ7 := Lib.hid (HZ6.out.mods m1 hgb)
  have HG7 := Lib.hid (HG6.out.mods m1 hgG)
  clear hs h1 m1 hv6 H6 M6 HE6 HZ6 R6 HG6
  go_wp2_with (go_at_call 43; refine (numR B b N L7 _ H7.out HE7.out hb (Nat.le_trans hB M7.out.size)).mono ?_)
  rintro e z8 (⟨x8, L8, hs, rfl, h1, m1⟩ | ⟨hs, rfl, m1⟩)
  rotate_left
  · have HN := Lib.hid (bind_gone R7.out hs)
    have MN := Lib.hid (M7.out.then m1)
    clear hs m1
    go_wp2_with fail
    exact ⟨rfl, gives_no HN.out MN.out⟩
  obtain ⟨s7, hv7⟩ := rd_val hs
  have V7 := Lib.hid (pnum_some hv7)
  have R8 := Lib.hid (bind_goes R7.out hs)
  have H8 := Lib.hid h1
  have M8 := Lib.hid (M7.out.then m1)
  have HE8 := Lib.hid (HE7.out.below (m1.low hb (Nat.le_trans hB M7.out.size)))
  have HZ8 := Lib.hid (HZ7.out.mods m1 hgb)
  have HG8 := Lib.hid (HG7.out.mods m1 hgG)
  clear hs h1 m1 hv7 H7 M7 HE7 HZ7 R7 HG7
  go_wp2_with (go_at_call 42; refine (intR B b N L8 _ H8.out HE8.out hb (Nat.le_trans hB M8.out.size)).mono ?_)
  rintro e z9 (⟨x9, L9, hs, rfl, h1, m1⟩ | ⟨hs, rfl, m1⟩)
  rotate_left
  · have HN := Lib.hid (bind_gone R8.out hs)
    have MN := Lib.hid (M8.out.then m1)
    clear hs m1
    go_wp2_with fail
    exact ⟨rfl, gives_no HN.out MN.out⟩
  obtain ⟨s8, hv8⟩ := rd_val hs
  have V8 := Lib.hid (pint_some hv8)
  have R9 := Lib.hid (bind_goes R8.out hs)
  have H9 := Lib.hid h1
  have M9 := Lib.hid (M8.out.then m1)
  have HE9 := Lib.hid (HE8.out.below (m1.low hb (Nat.le_trans hB M8.out.size)))
  have HZ9 := Lib.hid (HZ8.out.mods m1 hgb)
  have HG9 := Lib.hid (HG8.out.mods m1 hgG)
  clear hs h1 m1 hv8 H8 M8 HE8 HZ8 R8 HG8
  go_wp2_with (go_at_call 42; refine (intR B b N L9 _ H9.out HE9.out hb (Nat.le_trans hB M9.out.size)).mono ?_)
  rintro e z10 (⟨x10, L10, hs, rfl, h1, m1⟩ | ⟨hs, rfl, m1⟩)
  rotate_left
  · have HN := Lib.hid (bind_gone R9.out hs)
    have MN := Lib.hid (M9.out.then m1)
    clear hs m1
    go_wp2_with fail
    exact ⟨rfl, gives_no HN.out MN.out⟩
  obtain ⟨s9, hv9⟩ := rd_val hs
  have V9 := Lib.hid (pint_some hv9)
  have R10 := Lib.hid (bind_goes R9.out hs)
  have H10 := Lib.hid h1
  have M10 := Lib.hid (M9.out.then m1)
  have HE10 := Lib.hid (HE9.out.below (m1.low hb (Nat.le_trans hB M9.out.size)))
  have HZ10 := Lib.hid (HZ9.out.mods m1 hgb)
  have HG10 := Lib.hid (HG9.out.mods m1 hgG)
  clear hs h1 m1 hv9 H9 M9 HE9 HZ9 R9 HG9
  have HY : Hid (oc = some (⟨x1, false, false, x4, [], x2, x3, ⟨x5, x6, toI x7, x8, x9, x10⟩, 0, 0⟩, L10)) := Lib.hid R10.out
  have hcv : wrap64 x7 = toI x7 := by have := V6.out.2; unfold wrap64 toI; split <;> omega
  simp only [hcv]
  clear hcv
  have hth := HG10.out.there (o := 13) (n := 6) (by simp)
  have HRF := Lib.hid (RdAt.setCells hgG (by omega) [.int .u64 x5, .int .u64 x6, .int .i64 (toI x7), .int .u64 x8, .int .i64 x9, .int .i64 x10] 13 H10.out)
  have MF := Lib.hid (Mods.setCells (P := (· = b)) (g := G) hpG [.int .u64 x5, .int .u64 x6, .int .i64 (toI x7), .int .u64 x8, .int .i64 x9, .int .i64 x10] 13 M10.out)
  have HZF := Lib.hid (Blk.setCells_other hgv [.int .u64 x5, .int .u64 x6, .int .i64 (toI x7), .int .u64 x8, .int .i64 x9, .int .i64 x10] 13 HZ10.out)
  have HGF : Hid (Blk (z10.setCells G 13 [.int .u64 x5, .int .u64 x6, .int .i64 (toI x7), .int .u64 x8, .int .i64 x9, .int .i64 x10]) G 48 #[.int .i64 x1, .bool false, .bool false, .int .u64 x4.ses, .int .u64 x4.seq, .int .i64 x4.op, .string ⟨x4.key.toArray⟩, .int .i64 x4.amount, .int .i64 x4.span, .int .u64 x4.lease, .string ⟨#[]⟩, .int .i64 x2, .int .i64 x3, .int .u64 x5, .int .u64 x6, .int .i64 (toI x7), .int .u64 x8, .int .i64 x9, .int .i64 x10, .int .i64 0, .int .i64 0]) := Lib.hid (by have := Blk.setCells [.int .u64 x5, .int .u64 x6, .int .i64 (toI x7), .int .u64 x8, .int .i64 x9, .int .i64 x10] 13 HG10.out; simpa only [putAll, List.setIfInBounds_toArray, List.set_cons_zero, List.set_cons_succ] using this)
  clear H10 M10 HZ10 HG10 HE10 R10
  go_wp2_with (refine wpList_store_mid rfl 46 (.tmp 47) (.tmp 46) rfl G 13 #[.int .u64 x5, .int .u64 x6, .int .i64 (toI x7), .int .u64 x8, .int .i64 x9, .int .i64 x10] rfl rfl hth rep_size (by simp [Value.oneCell']) ?_; simp only [List.toList_toArray]; generalize z10.setCells G 13 [.int .u64 x5, .int .u64 x6, .int .i64 (toI x7), .int .u64 x8, .int .i64 x9, .int .i64 x10] = z11 at *; (iterate 5 go_step); refine wpList_load_row rfl 48 (.tmp 4) rfl G rfl 48 #[.int .i64 x1, .bool false, .bool false, .int .u64 x4.ses, .int .u64 x4.seq, .int .i64 x4.op, .string ⟨x4.key.toArray⟩, .int .i64 x4.amount, .int .i64 x4.span, .int .u64 x4.lease, .string ⟨#[]⟩, .int .i64 x2, .int .i64 x3, .int .u64 x5, .int .u64 x6, .int .i64 (toI x7), .int .u64 x8, .int .i64 x9, .int .i64 x10, .int .i64 0, .int .i64 0] (0, 0) _ HGF.out Tryd.underlying48 rfl call_size ?_; refine wpList_store_row rfl 48 (.tmp 2) (.tmp 48) rfl w.heap.size #[.int .i64 x1, .bool false, .bool false, .int .u64 x4.ses, .int .u64 x4.seq, .int .i64 x4.op, .string ⟨x4.key.toArray⟩, .int .i64 x4.amount, .int .i64 x4.span, .int .u64 x4.lease, .string ⟨#[]⟩, .int .i64 x2, .int .i64 x3, .int .u64 x5, .int .u64 x6, .int .i64 (toI x7), .int .u64 x8, .int .i64 x9, .int .i64 x10, .int .i64 0, .int .i64 0] rfl rfl _ _ HZF.out call_size rfl (by simp [Value.oneCell']) ?_; repeat go_step)
  have HRG := Lib.hid (HRF.out.setRow hgb hN #[.int .i64 x1, .bool false, .bool false, .int .u64 x4.ses, .int .u64 x4.seq, .int .i64 x4.op, .string ⟨x4.key.toArray⟩, .int .i64 x4.amount, .int .i64 x4.span, .int .u64 x4.lease, .string ⟨#[]⟩, .int .i64 x2, .int .i64 x3, .int .u64 x5, .int .u64 x6, .int .i64 (toI x7), .int .u64 x8, .int .i64 x9, .int .i64 x10, .int .i64 0, .int .i64 0])
  have MG := Lib.hid (MF.out.setRow w.heap.size (.inr (Nat.le_refl _)) #[.int .i64 x1, .bool false, .bool false, .int .u64 x4.ses, .int .u64 x4.seq, .int .i64 x4.op, .string ⟨x4.key.toArray⟩, .int .i64 x4.amount, .int .i64 x4.span, .int .u64 x4.lease, .string ⟨#[]⟩, .int .i64 x2, .int .i64 x3, .int .u64 x5, .int .u64 x6, .int .i64 (toI x7), .int .u64 x8, .int .i64 x9, .int .i64 x10, .int .i64 0, .int .i64 0])
  have HZG := Lib.hid (HZF.out.setRow #[.int .i64 x1, .bool false, .bool false, .int .u64 x4.ses, .int .u64 x4.seq, .int .i64 x4.op, .string ⟨x4.key.toArray⟩, .int .i64 x4.amount, .int .i64 x4.span, .int .u64 x4.lease, .string ⟨#[]⟩, .int .i64 x2, .int .i64 x3, .int .u64 x5, .int .u64 x6, .int .i64 (toI x7), .int .u64 x8, .int .i64 x9, .int .i64 x10, .int .i64 0, .int .i64 0])
  refine bodyPost_ret (v := .agg #[.int .i64 x1, .bool false, .bool false, .int .u64 x4.ses, .int .u64 x4.seq, .int .i64 x4.op, .string ⟨x4.key.toArray⟩, .int .i64 x4.amount, .int .i64 x4.span, .int .u64 x4.lease, .string ⟨#[]⟩, .int .i64 x2, .int .i64 x3, .int .u64 x5, .int .u64 x6, .int .i64 (toI x7), .int .u64 x8, .int .i64 x9, .int .i64 x10, .int .i64 0, .int .i64 0]) (results_cell_row rfl _ _ w.heap.size 48 #[.int .i64 x1, .bool false, .bool false, .int .u64 x4.ses, .int .u64 x4.seq, .int .i64 x4.op, .string ⟨x4.key.toArray⟩, .int .i64 x4.amount, .int .i64 x4.span, .int .u64 x4.lease, .string ⟨#[]⟩, .int .i64 x2, .int .i64 x3, .int .u64 x5, .int .u64 x6, .int .i64 (toI x7), .int .u64 x8, .int .i64 x9, .int .i64 x10, .int .i64 0, .int .i64 0] (0, 0) _ rfl HZG.out Tryd.underlying48 rfl call_size) rfl ?_
  exact gives_yes HY.out rfl HRG.out MG.out
set_option maxRecDepth 20000 in
set_option maxHeartbeats 8000000 in
theorem whatCallNil (B b N : Nat) (w : World) (h : RdAt w b N []) (hE : EnvR B w) (hb : B ≤ b) (hB : B ≤ w.heap.size) (hN : N ≤ w.heap.size) :
    Calls Tryd.prog 52 #[.pointer (some ⟨b, 0, none⟩)] w (Gives (rdCall []) (fun c => .agg c.cells.toArray) b N w) := by
  have hgb : w.heap.size ≠ b := by have := h.lt; omega
  have hal : Below w.heap.size w (w.alloc (.cells #[.int .i64 0, .bool false, .bool false, .int .u64 0, .int .u64 0, .int .i64 0, .string ⟨#[]⟩, .int .i64 0, .int .i64 0, .int .u64 0, .string ⟨#[]⟩, .int .i64 0, .int .i64 0, .int .u64 0, .int .u64 0, .int .i64 0, .int .u64 0, .int .i64 0, .int .i64 0, .int .i64 0, .int .i64 0] 48)) := (Below.refl _ _).alloc (Nat.le_refl _) _
  have HZ0 := Lib.hid (Blk.new w #[.int .i64 0, .bool false, .bool false, .int .u64 0, .int .u64 0, .int .i64 0, .string ⟨#[]⟩, .int .i64 0, .int .i64 0, .int .u64 0, .string ⟨#[]⟩, .int .i64 0, .int .i64 0, .int .u64 0, .int .u64 0, .int .i64 0, .int .u64 0, .int .i64 0, .int .i64 0, .int .i64 0, .int .i64 0] 48)
  have H0 := Lib.hid (h.below hal)
  have M0 := Lib.hid (Mods.of_below (S := (· = b)) hal)
  have HE0 := Lib.hid (hE.below (hal.mono hB))
  have C := Lib.hid (nextNo b N _ H0.out)
  clear h hE hal
  go_enter Tryd.func52, Tryd.ntmps52
  go_wp2_with (go_at_call 40; refine C.out.mono ?_)
  first | rintro e w1 ⟨rfl, m1⟩ | rintro e w1 rfl m1
  have MN := Lib.hid (M0.out.then m1)
  clear m1
  go_wp2_with fail
  exact ⟨rfl, gives_no rfl MN.out⟩


theorem whatCall (B b N : Nat) (L : List (List UInt8)) (w : World) (h : RdAt w b N L) (hE : EnvR B w) (hb : B ≤ b) (hB : B ≤ w.heap.size) (hN : N ≤ w.heap.size) :
    Calls Tryd.prog 52 #[.pointer (some ⟨b, 0, none⟩)] w (Gives (rdCall L) (fun c => .agg c.cells.toArray) b N w) := by
  cases L with
  | nil => exact whatCallNil B b N w h hE hb hB hN
  | cons s t =>
    by_cases hs : s = wCall
    · subst hs; exact whatCallCall B b N t w h hE hb hB hN
    · exact whatCallLook B b N s t w h hE hb hB hN hs _ rfl
end Go.Proofs.YtcinohmhhglpjaaDoor
