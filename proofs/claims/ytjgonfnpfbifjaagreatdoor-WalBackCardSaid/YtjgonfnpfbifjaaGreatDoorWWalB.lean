/- The walk of WalBack. -/
import Derived.Test.YtjgonfnpfbifjaaGreatDoorWWalN
import Derived.Test.YtjgonfnpfbifjaaGreatDoorWalT
import Derived.Test.YtjgonfnpfbifjaaGreatDoorWalR
namespace Go.Proofs.YtjgonfnpfbifjaaGreatDoor
open Go.RowKit

section
variable {B c : Nat} {T T0 U : Nat → Prop} {w w' : World} {A X : Option Addr} {L : List (Option Addr × Nat × List UInt8)}
/-- Rows of the call's own, told as they are handed to Append. -/
structure RowsL (w : World) (B : Nat) (A : Option Addr) (c : Nat) (L : List (Option Addr × Nat × List UInt8)) : Prop where
  rv : OV w B TB A c (L.map fun t => .slice t.1 t.2.2.length t.2.1)
  rc : ∀ t ∈ L, OB w B t.1 t.2.1 t.2.2 ∧ t.2.2.length ≤ 140737488355328
theorem RowsL.below (h : RowsL w B A c L) (hb : Below w.heap.size w w') : RowsL w' B A c L := ⟨h.rv.below hb, fun y hy => ⟨(h.rc y hy).1.below hb, (h.rc y hy).2⟩⟩
theorem RowsL.rl (h : RowsL w B A c L) (hT : ∀ b, T b → b < B ∨ w.heap.size ≤ b) : RL T w A L := by
  refine ⟨⟨h.rv.rv, fun t ht => ⟨(h.rc t ht).1.rb, (h.rc t ht).2⟩⟩, fun _ b hb ht => ?_, fun t ht _ b hb h2 => ?_⟩
  · have := h.rv.blk_lt b hb
    have := hT b ht
    omega
  · have := (h.rc t ht).1.blk_in b hb
    have := hT b h2
    omega
theorem RL.weak (h : RL T0 w X L) (hT : ∀ b, T b → T0 b) : RL T w X L := ⟨h.rbb, fun h0 b hb ht => h.row h0 b hb (hT b ht), fun t ht h0 b hb h2 => h.rcs t ht h0 b hb (hT b h2)⟩
theorem rbb_mods (h : RBB w X L) (m : Mods U w w') (h1 : 0 < L.length → ∀ b, X.map (·.block) = some b → ¬ U b) (h2 : ∀ t ∈ L, 0 < t.2.2.length → ∀ b, t.1.map (·.block) = some b → ¬ U b) : RBB w' X L :=
  ⟨h.reads.mods m (fun h0 => h1 (by simpa using h0)), fun t ht => ⟨(h.each t ht).1.mods m (h2 t ht), (h.each t ht).2⟩⟩
theorem lawWholeL (X : Option Addr) (cx : Nat) (L : List (Option Addr × Nat × List UInt8)) (hX : RBB w X L) (hL : L.length ≤ 5864062014700) :
    Calls Tryz.prog 8 #[.slice X L.length cx] w fun e w' => ∃ A c M, e = .returned (.tuple #[.slice A M.length c, .bool ((L.map (·.2.2)).all fun r => decide (r.length ≤ 65520))]) ∧ M.map (·.2.2) = L.map (·.2.2) ∧ RowsL w' w.heap.size A c M ∧ Below w.heap.size w w' ∧ M.length = L.length := by
  refine (lawWhole X cx L hX hL).mono ?_
  rintro e w' ⟨A, c, Y, rfl, hY, hR, hb⟩
  have hl : Y.length = L.length := by have := congrArg List.length hY; simpa using this
  refine ⟨A, c, Y.map fun y => (y.2.1, y.2.2, y.1), by rw [List.length_map], by rw [List.map_map, ← hY]; rfl, ⟨by rw [List.map_map]; exact hR.rv, fun t ht => ?_⟩, hb, by rw [List.length_map, hl]⟩
  obtain ⟨y, hy, rfl⟩ := List.mem_map.1 ht
  refine ⟨hR.rc y hy, ?_⟩
  have hm : y.1 ∈ L.map (·.2.2) := by rw [← hY]; exact List.mem_map.2 ⟨y, hy, rfl⟩
  obtain ⟨t, ht, e⟩ := List.mem_map.1 hm
  show y.1.length ≤ _
  rw [← e]
  exact (hX.each t ht).2
theorem rs_of_rv {w : World} {A : Option Addr} (h : RV w A (L.map fun t => .slice t.1 t.2.2.length t.2.1)) : RS w A 1 (L.map fun t => [.slice t.1 t.2.2.length t.2.1]) := by
  refine ⟨fun h0 => ?_⟩
  obtain ⟨b, off, e, hb, hc⟩ := h.at_ (by simpa using h0)
  refine ⟨b, off, e, hb, fun i cs hi j v hj => ?_⟩
  rw [List.getElem?_map] at hi
  obtain ⟨t, ht, rfl⟩ := Option.map_eq_some_iff.1 hi
  match j with
  | 0 =>
    simp only [List.getElem?_cons_zero, Option.some.injEq] at hj
    subst hj
    rw [Nat.mul_one, Nat.add_zero]
    exact hc i _ (by rw [List.getElem?_map, ht]; rfl)
  | j + 1 => simp at hj
theorem slice_rows_len : ∀ r ∈ (L.map fun t => [Value.slice t.1 t.2.2.length t.2.1]), r.length = 1 := by
  intro r hr
  obtain ⟨t, _, rfl⟩ := List.mem_map.1 hr
  rfl
theorem slice_rows_one : ∀ r ∈ (L.map fun t => [Value.slice t.1 t.2.2.length t.2.1]), ∀ v ∈ r, v.oneCell' = true := by
  intro r hr v hv
  obtain ⟨t, _, rfl⟩ := List.mem_map.1 hr
  rw [List.mem_singleton.1 hv]
  rfl
theorem rv_of_rs {w : World} {A : Option Addr} (h : RS w A 1 (L.map fun t => [.slice t.1 t.2.2.length t.2.1])) : RV w A (L.map fun t => .slice t.1 t.2.2.length t.2.1) := by
  refine ⟨fun h0 => ?_⟩
  obtain ⟨b, off, e, hb, hc⟩ := h.at_ (by simpa using h0)
  refine ⟨b, off, e, hb, fun j v hv => ?_⟩
  rw [List.getElem?_map] at hv
  obtain ⟨t, ht, rfl⟩ := Option.map_eq_some_iff.1 hv
  have := hc j _ (by rw [List.getElem?_map, ht]; rfl) 0 _ rfl
  rwa [Nat.mul_one, Nat.add_zero] at this
theorem stopF_B (r : Int) (x : List (List UInt8)) (h : ∀ y ∈ x, y.length ≤ 65520) (hn : 1 + x.length < 18446744073709551616) : stopF (dskB r (recsB 1 x)) ⟨walName 0 1, 0, 1⟩ = (recsB 1 x).length := by
  have hs := scanF_recs x 1 h hn
  have hl := marksB_last x 0 1
  unfold stopF
  simp only [fgetB, Option.getD_some, hs]
  rw [hl]; omega
def lenSum (L : List (Option Addr × Nat × List UInt8)) (k : Nat) : Nat := ((L.take k).map fun t => t.2.2.length).sum
theorem lenSum_succ (L : List (Option Addr × Nat × List UInt8)) {k : Nat} (h : k < L.length) : lenSum L (k + 1) = lenSum L k + L[k].2.2.length := by
  unfold lenSum
  rw [List.take_succ_eq_append_getElem h, List.map_append, List.sum_append]
  simp
theorem lenSum_le (h : RBB w X L) : ∀ k, lenSum L k ≤ k * 140737488355328 := by
  intro k
  induction k with
  | zero => simp [lenSum]
  | succ k ih =>
    by_cases hk : k < L.length
    · rw [lenSum_succ L hk]
      have := (h.each L[k] (List.getElem_mem hk)).2
      omega
    · have e : lenSum L (k + 1) = lenSum L k := by unfold lenSum; rw [List.take_of_length_le (by omega), List.take_of_length_le (by omega)]
      omega
end
set_option maxRecDepth 20000 in
set_option maxHeartbeats 16000000 in
theorem walkWalBack (A0 : Option Addr) (c0 : Nat) (L0 : List (Option Addr × Nat × List UInt8)) (A1 : Option Addr) (c1 : Nat) (L1 : List (Option Addr × Nat × List UInt8)) (mask torn : Int) (w : World) (f0 : RBB w A0 L0) (n0 : L0.length ≤ 5864062014700) (f1 : RBB w A1 L1) (n1 : L1.length ≤ 5864062014700)
    (hm : 0 ≤ mask ∧ mask < 18446744073709551616) (ht : -9223372036854775808 ≤ torn ∧ torn ≤ 9223372036854775807) (hE : WEnv w.heap.size w) :
    Calls Tryz.prog 3 #[.slice A0 L0.length c0, .slice A1 L1.length c1, .int .u64 mask, .int .i64 torn] w fun e w' => e = .returned (.bool true) ∧ Below w.heap.size w w' := by
  obtain ⟨mask, rfl⟩ := Int.eq_ofNat_of_zero_le hm.1
  have hm' : mask < 18446744073709551616 := by omega
  have HE := Lib.hid hE
  have F0 := Lib.hid f0
  have F1 := Lib.hid f1
  have ND := Lib.hid (diskNew 4000000 w (by decide) (by decide))
  clear hE f0 f1 hm
  go_enter Tryz.func3, Tryz.ntmps3
  go_wp2_with (go_at_call 6; refine ND.out.mono ?_)
  first | rintro e w1 ⟨g, rfl, hd, b1⟩ | rintro e w1 g rfl hd b1
  have HB1 := Lib.hid b1
  have OP := Lib.hid (walOpenNew (B := w.heap.size) 4000000 (by decide) hd b1.size (fun x hx => hx.1) (HE.out.se.below b1))
  clear hd b1 ND
  go_wp2_with (go_at_call 7; refine OP.out.mono ?_)
  rintro e w2 ⟨p, S2, F2, rfl, ⟨Z, Y, SA, sc, RA, rc, hx⟩, hs2, hf2, hm2⟩
  have HB2 : Hid (Below w.heap.size w w2) := Lib.hid (Mods.old HB1.out hm2 HB1.out.size (fun i _ h => h.1))
  have HSF : Hid ((∀ b, S2 b → w.heap.size ≤ b) ∧ (∀ b, F2 b → w.heap.size ≤ b)) := Lib.hid ⟨fun b hb => (hs2 b hb).elim (fun h => h.1) (fun h => Nat.le_trans HB1.out.size h), fun b hb => Nat.le_trans HB1.out.size (hf2 b hb)⟩
  have HBD : Hid ((∀ b, S2 b → b < w2.heap.size) ∧ (∀ b, F2 b → b < w2.heap.size)) := Lib.hid ⟨fun b hb => hx.lb.di.bnd b hb, fun b hb => (hx.lb.bnd b hb).2⟩
  have HX2 := Lib.hid hx
  have hsz2 : w.heap.size ≤ w2.heap.size := HB2.out.size
  have W0 := Lib.hid (lawWholeL A0 c0 L0 (F0.out.below (HB2.out.mono (Nat.le_refl _))) n0)
  clear OP hx hs2 hf2 hm2 HB1
  go_wp2_with (go_at_call 8; refine W0.out.mono ?_)
  rintro e w3 ⟨Ax, cx, Mx, rfl, hMx, hRx, hb3, hMxl⟩
  have HMXL := Lib.hid hMxl
  clear hMxl
  have HB3 := Lib.hid (HB2.out.trans (hb3.mono hsz2))
  have HX3 := Lib.hid (HX2.out.below hb3)
  have hsz3 : w2.heap.size ≤ w3.heap.size := hb3.size
  have W1 := Lib.hid (lawWholeL A1 c1 L1 (F1.out.below (HB3.out.mono (Nat.le_refl _))) n1)
  have HRX := Lib.hid hRx
  have HMX := Lib.hid hMx
  obtain ⟨okx, hokx⟩ : ∃ okx, okx = ((L0.map (·.2.2)).all fun r => decide (r.length ≤ 65520)) := ⟨_, rfl⟩
  have HOX := Lib.hid hokx
  rw [← hokx]
  clear W0 hMx hRx hb3 HX2 HB2 hokx
  go_wp2_with (go_at_call 8; refine W1.out.mono ?_)
  rintro e w4 ⟨Ay, cy, My, rfl, hMy, hRy, hb4, hMyl⟩
  have HMYL := Lib.hid hMyl
  clear hMyl
  have HB4 := Lib.hid (HB3.out.trans (hb4.mono (Nat.le_trans hsz2 hsz3)))
  have HX4 := Lib.hid (HX3.out.below hb4)
  have hsz4 : w3.heap.size ≤ w4.heap.size := hb4.size
  have HRX4 := Lib.hid (HRX.out.below hb4)
  have HRY := Lib.hid hRy
  have HMY := Lib.hid hMy
  obtain ⟨oky, hoky⟩ : ∃ oky, oky = ((L1.map (·.2.2)).all fun r => decide (r.length ≤ 65520)) := ⟨_, rfl⟩
  have HOY := Lib.hid hoky
  rw [← hoky]
  clear W1 hMy hRy hb4 HX3 HB3 hoky HRX
  -- the sums
  go_upto_block 0 with fail
  go_cut [17, 18] (fun s17 s18 wx => ∃ k : Nat, (k = L0.length ∨ k = 41) ∧ k ≤ 41 ∧ s17 = .int .i64 (lenSum L0 k : Int) ∧ wx = w4)
  case first =>
    go_wp2_with fail
    go_loopw [17, 18] (fun s17 s18 wr => ∃ k : Nat, k ≤ L0.length ∧ k ≤ 41 ∧ s17 = .int .i64 (lenSum L0 k : Int) ∧ s18 = .int .i64 (k : Int) ∧ wr = w4) (fun _ s18 _ => L0.length - (intOf s18).toNat)
    case atStart => exact ⟨0, Nat.zero_le _, Nat.zero_le _, by simp [lenSum], rfl, by first | rfl | trivial⟩
    case round =>
      obtain ⟨k, hk, hk2, rfl, rfl, rfl⟩ := hrel
      by_cases hlt : k < L0.length
      · by_cases hlt2 : k < 41
        · have hki : (k : Int) < (L0.length : Int) := by omega
          have hki0 : (0 : Int) ≤ (k : Int) := by omega
          have hki2 : (k : Int) < 41 := by omega
          have hfr := F0.out.below HB4.out
          obtain ⟨xb, off, rfl, hbl, hc⟩ := hfr.cell hlt
          have h1 := lenSum_succ L0 hlt
          have h2 := lenSum_le hfr k
          have h3 := (hfr.each L0[k] (List.getElem_mem hlt)).2
          have hw : IntKind.i64.wrap ((lenSum L0 k : Int) + (L0[k].2.2.length : Int)) = (lenSum L0 (k + 1) : Int) := by rw [IntWalk.i64_in _ (by omega)]; omega
          generalize L0[k] = t at *
          obtain ⟨t0, t1, t2⟩ := t
          simp only at *
          clear h1 h2 hfr
          go_wp2_with fail
          go_roundw
          case rel => exact ⟨k + 1, by omega, by omega, rfl, by go_num, by first | rfl | trivial⟩
          case measure => simp [intOf]; omega
        · have h2 : ¬ (k : Int) < 41 := by omega
          have hki : (k : Int) < (L0.length : Int) := by omega
          go_wp2_with fail
          go_meet
          exact ⟨k, .inr (by omega), hk2, rfl, by first | rfl | trivial⟩
      · have hki : ¬ (k : Int) < (L0.length : Int) := by omega
        go_wp2_with fail
        go_meet
        exact ⟨k, .inl (by omega), hk2, rfl, by first | rfl | trivial⟩
  case rest =>
    obtain ⟨k0, hk0, hk01, rfl, rfl⟩ := hcut
    have hl0 := lenSum_le (F0.out.below HB4.out) k0
    obtain ⟨N0, hN0⟩ : ∃ N0, N0 = lenSum L0 k0 := ⟨_, rfl⟩
    rw [← hN0] at hl0 ⊢
    have HN0 := Lib.hid (And.intro hN0 hk0)
    clear hN0 hk0
    go_upto_block 2 with fail
    go_cut [17, 19] (fun s17 s19 wx => ∃ k : Nat, (k = L1.length ∨ k = 41) ∧ k ≤ 41 ∧ s17 = .int .i64 ((N0 + lenSum L1 k : Nat) : Int) ∧ wx = wc)
    case first =>
      go_wp2_with fail
      go_loopw [17, 19] (fun s17 s19 wr => ∃ k : Nat, k ≤ L1.length ∧ k ≤ 41 ∧ s17 = .int .i64 ((N0 + lenSum L1 k : Nat) : Int) ∧ s19 = .int .i64 (k : Int) ∧ wr = wc) (fun _ s19 _ => L1.length - (intOf s19).toNat)
      case atStart => exact ⟨0, Nat.zero_le _, Nat.zero_le _, by simp [lenSum], rfl, by first | rfl | trivial⟩
      case round =>
        obtain ⟨k, hk, hk2, rfl, rfl, rfl⟩ := hrel
        by_cases hlt : k < L1.length
        · by_cases hlt2 : k < 41
          · have hki : (k : Int) < (L1.length : Int) := by omega
            have hki0 : (0 : Int) ≤ (k : Int) := by omega
            have hki2 : (k : Int) < 41 := by omega
            have hfr := F1.out.below HB4.out
            obtain ⟨xb, off, rfl, hbl, hc⟩ := hfr.cell hlt
            have h1 := lenSum_succ L1 hlt
            have h2 := lenSum_le hfr k
            have h3 := (hfr.each L1[k] (List.getElem_mem hlt)).2
            have hw : IntKind.i64.wrap (((N0 + lenSum L1 k : Nat) : Int) + (L1[k].2.2.length : Int)) = ((N0 + lenSum L1 (k + 1) : Nat) : Int) := by rw [IntWalk.i64_in _ (by omega)]; omega
            generalize L1[k] = t at *
            generalize N0 + lenSum L1 k = s1 at *
            obtain ⟨s2, hs2⟩ : ∃ s2, s2 = N0 + lenSum L1 (k + 1) := ⟨_, rfl⟩
            rw [← hs2] at hw
            have HS2 := Lib.hid hs2
            clear hs2
            obtain ⟨t0, t1, t2⟩ := t
            simp only at *
            clear h1 h2 hfr
            go_wp2_with fail
            go_roundw
            case rel => exact ⟨k + 1, by omega, by omega, by rw [HS2.out], by go_num, by first | rfl | trivial⟩
            case measure => simp [intOf]; omega
          · have h2 : ¬ (k : Int) < 41 := by omega
            have hki : (k : Int) < (L1.length : Int) := by omega
            go_wp2_with fail
            go_meet
            exact ⟨k, .inr (by omega), hk2, rfl, by first | rfl | trivial⟩
        · have hki : ¬ (k : Int) < (L1.length : Int) := by omega
          go_wp2_with fail
          go_meet
          exact ⟨k, .inl (by omega), hk2, rfl, by first | rfl | trivial⟩
    case rest =>
      obtain ⟨k1, hk1, hk11, rfl, rfl⟩ := hcut
      have hl1 := lenSum_le (F1.out.below HB4.out) k1
      obtain ⟨N, hN⟩ : ∃ N, N = N0 + lenSum L1 k1 := ⟨_, rfl⟩
      rw [← hN]
      have hNb : N ≤ 20000000000000000 := by omega
      have HN := Lib.hid (And.intro hN hk1)
      clear hN hk1 hl0 hl1
      obtain ⟨w4, hw4⟩ : ∃ w4, w4 = wc := ⟨_, rfl⟩
      subst hw4
      have hszw : w.heap.size ≤ w4.heap.size := Nat.le_trans hsz2 (Nat.le_trans hsz3 hsz4)
      have AN : Hid (∀ v, Below w4.heap.size w4 v → Calls Tryz.prog 9 #[] v fun e w' => e = .returned (.bool true) ∧ Below v.heap.size v w') := Lib.hid (fun v hv => walAnswers v ((HE.out.se.below (HB4.out.trans (hv.mono hszw))).up (Nat.le_trans hszw hv.size)))
      go_upto_region 14 with fail
      go_cut [103] (fun s103 wx => (s103 = .bool true ∨ (s103 = .bool false ∧ okx = true ∧ oky = true ∧ L0.length ≤ 40 ∧ L1.length ≤ 40 ∧ N ≤ 1000000)) ∧ Hid (Below w4.heap.size w4 wx))
      case first =>
        by_cases hox : okx = true
        · subst hox
          by_cases hoy : oky = true
          · subst hoy
            by_cases h0 : (L0.length : Int) ≤ 40
            · by_cases h1 : (L1.length : Int) ≤ 40
              · by_cases h2 : (N : Int) ≤ 1000000
                · have h0' : ¬ (40 : Int) < (L0.length : Int) := by omega
                  have h1' : ¬ (40 : Int) < (L1.length : Int) := by omega
                  have h2' : ¬ (1000000 : Int) < (N : Int) := by omega
                  go_wp2_with (go_at_call 9; refine (AN.out _ (Below.refl _ _)).mono ?_)
                  first | rintro e w5 rfl hb5 | rintro e w5 ⟨rfl, hb5⟩
                  have HB5 := Lib.hid hb5
                  clear hb5
                  go_wp2_with fail
                  go_meet
                  exact ⟨.inr ⟨by first | rfl | trivial | (simp; omega), by first | rfl | trivial, by first | rfl | trivial, by omega, by omega, by omega⟩, HB5⟩
                · have h0' : ¬ (40 : Int) < (L0.length : Int) := by omega
                  have h1' : ¬ (40 : Int) < (L1.length : Int) := by omega
                  have h2' : (1000000 : Int) < (N : Int) := by omega
                  go_wp2_with (go_at_call 9; refine (AN.out _ (Below.refl _ _)).mono ?_)
                  first | rintro e w5 rfl hb5 | rintro e w5 ⟨rfl, hb5⟩
                  have HB5 := Lib.hid hb5
                  clear hb5
                  go_wp2_with fail
                  go_meet
                  exact ⟨.inl (by first | rfl | trivial | (simp; omega)), HB5⟩
              · have h0' : ¬ (40 : Int) < (L0.length : Int) := by omega
                have h1' : (40 : Int) < (L1.length : Int) := by omega
                go_wp2_with (go_at_call 9; refine (AN.out _ (Below.refl _ _)).mono ?_)
                first | rintro e w5 rfl hb5 | rintro e w5 ⟨rfl, hb5⟩
                have HB5 := Lib.hid hb5
                clear hb5
                go_wp2_with fail
                go_meet
                exact ⟨.inl (by first | rfl | trivial | (simp; omega)), HB5⟩
            · have h0' : (40 : Int) < (L0.length : Int) := by omega
              go_wp2_with (go_at_call 9; refine (AN.out _ (Below.refl _ _)).mono ?_)
              first | rintro e w5 rfl hb5 | rintro e w5 ⟨rfl, hb5⟩
              have HB5 := Lib.hid hb5
              clear hb5
              go_wp2_with fail
              go_meet
              exact ⟨.inl (by first | rfl | trivial | (simp; omega)), HB5⟩
          · have hoy' : oky = false := by simpa using hoy
            subst hoy'
            go_wp2_with (go_at_call 9; refine (AN.out _ (Below.refl _ _)).mono ?_)
            first | rintro e w5 rfl hb5 | rintro e w5 ⟨rfl, hb5⟩
            have HB5 := Lib.hid hb5
            clear hb5
            go_wp2_with fail
            go_meet
            exact ⟨.inl (by first | rfl | trivial | (simp; omega)), HB5⟩
        · have hox' : okx = false := by simpa using hox
          subst hox'
          go_wp2_with (go_at_call 9; refine (AN.out _ (Below.refl _ _)).mono ?_)
          first | rintro e w5 rfl hb5 | rintro e w5 ⟨rfl, hb5⟩
          have HB5 := Lib.hid hb5
          clear hb5
          go_wp2_with fail
          go_meet
          exact ⟨.inl (by first | rfl | trivial | (simp; omega)), HB5⟩
      case rest =>
        obtain ⟨rfl | ⟨rfl, hox, hoy, hl0, hl1, hN0⟩, HB5⟩ := hcut
        · go_wp2_with (go_at_call 9; refine (AN.out _ HB5.out).mono ?_)
          first | rintro e w6 rfl hb6 | rintro e w6 ⟨rfl, hb6⟩
          have HB6 : Hid (Below w.heap.size w w6) := Lib.hid (HB4.out.trans ((HB5.out.trans (hb6.mono HB5.out.size)).mono hszw))
          clear hb6
          go_wp2_with fail
          go_ret
          exact ⟨rfl, HB6.out⟩
        · obtain ⟨w5, hw5⟩ : ∃ w5, w5 = wc := ⟨_, rfl⟩
          subst hw5
          obtain ⟨x, hxd⟩ : ∃ x, x = L0.map (·.2.2) := ⟨_, rfl⟩
          obtain ⟨y, hyd⟩ : ∃ y, y = L1.map (·.2.2) := ⟨_, rfl⟩
          have hx65 : ∀ r ∈ x, r.length ≤ 65520 := by
            have h := HOX.out
            rw [hox, ← hxd] at h
            intro r hr
            simpa using List.all_eq_true.1 h.symm r hr
          have hy65 : ∀ r ∈ y, r.length ≤ 65520 := by
            have h := HOY.out
            rw [hoy, ← hyd] at h
            intro r hr
            simpa using List.all_eq_true.1 h.symm r hr
          have hsum : ∀ (L : List (Option Addr × Nat × List UInt8)) (k : Nat), (k = L.length ∨ k = 41) → L.length ≤ 40 → lenSum L k = ((L.map (·.2.2)).map List.length).sum := by
            intro L k hk hl
            unfold lenSum
            rw [List.take_of_length_le (by omega), List.map_map]
            rfl
          have hxs := hsum L0 k0 HN0.out.2 hl0
          have hys := hsum L1 k1 HN.out.2 hl1
          have hxl : x.length ≤ 40 := by rw [hxd, List.length_map]; exact hl0
          have hyl : y.length ≤ 40 := by rw [hyd, List.length_map]; exact hl1
          rw [← hxd, ← HN0.out.1] at hxs
          rw [← hyd] at hys
          have hNs := HN.out.1
          have hrx := recsB_len2 x 1
          have hry := recsB_len2 y (1 + x.length)
          have hmx : Mx.map (·.2.2) = x := HMX.out.trans hxd.symm
          have hmy : My.map (·.2.2) = y := HMY.out.trans hyd.symm
          have HPX := Lib.hid (And.intro hx65 (And.intro hxl (show (recsB 1 x).length ≤ 2000000 by omega)))
          have HPY := Lib.hid (And.intro hy65 (And.intro hyl (show (recsB 1 x).length + (recsB (1 + x.length) y).length ≤ 3000000 by omega)))
          have HMM := Lib.hid (And.intro hmx hmy)
          clear hx65 hy65 hsum hxs hys hNs hrx hry hxd hyd hox hoy hN0 HOX HOY HN0 HN HMX HMY hmx hmy hxl hyl
          have hszc : w4.heap.size ≤ w5.heap.size := HB5.out.size
          have hw5 : w.heap.size ≤ w5.heap.size := Nat.le_trans hszw hszc
          obtain ⟨T0, hT0⟩ : ∃ T0 : Nat → Prop, T0 = fun b => (w.heap.size ≤ b ∧ b < w2.heap.size) ∨ w5.heap.size ≤ b := ⟨_, rfl⟩
          have HTG : Hid (∀ b, w5.heap.size ≤ b → T0 b) := Lib.hid (fun b hb => by rw [hT0]; exact .inr hb)
          have HTL : Hid (∀ b, T0 b → w.heap.size ≤ b) := Lib.hid (fun b hb => by
            rw [hT0] at hb
            rcases hb with hb | hb
            · exact hb.1
            · omega)
          have HX5 := Lib.hid (HX4.out.below HB5.out)
          have HBW := Lib.hid (HB4.out.trans (HB5.out.mono hszw))
          have RX := Lib.hid ((HRX4.out.below HB5.out).rl (T := T0) (fun b hb => by rw [hT0] at hb; omega))
          have RY := Lib.hid ((HRY.out.below HB5.out).rl (T := T0) (fun b hb => by rw [hT0] at hb; omega))
          have HSS : Hid ((∀ b, S2 b → T0 b) ∧ (∀ b, F2 b → T0 b)) := Lib.hid ⟨fun b hb => by rw [hT0]; exact .inl ⟨HSF.out.1 b hb, HBD.out.1 b hb⟩, fun b hb => by rw [hT0]; exact .inl ⟨HSF.out.2 b hb, HBD.out.2 b hb⟩⟩
          have hmxl : Mx.length ≤ 40 := by rw [HMXL.out]; exact hl0
          have hmyl : My.length ≤ 40 := by rw [HMYL.out]; exact hl1
          have AP := walAppend HX5.out hw5 (HE.out.se.below HBW.out) Ax cx Mx (RX.out.weak (fun b hb => hb.elim (HSS.out.1 b) (HSS.out.2 b))) (by omega) lg1_fine (by show (1 : Nat) ≤ _; omega)
          obtain ⟨D1, hA1, hA2, hA3⟩ := appendW_B 4000000 x HPX.out.1 (by have := HPX.out.2.2; omega) (by omega)
          rw [HMM.out.1, show appendW lg1 (dsk1 4000000) x = (0, lgB x, D1) from hA1] at AP
          have APH := Lib.hid AP
          have HA3 := Lib.hid (And.intro hA2 hA3)
          clear AP hA1 hA2 hA3 hT0 HX4 HRX4 HRY HX5 HB4 HB5 AN HSF HBD HMXL HMYL hl0 hl1 n0 n1 F0 F1
          go_wp2_with (go_at_call 10; refine APH.out.mono ?_)
          rintro e w6 ⟨rfl, S6, F6, ⟨Z6, Y6, SA6, sc6, RA6, rc6, hx6⟩, hs6, hf6, hm6⟩
          have HM6 : Hid (Mods T0 w5 w6) := Lib.hid (hm6.mono (fun i _ h => h.elim (HSS.out.1 i) (HSS.out.2 i)))
          have HT6 : Hid ((∀ b, S6 b → T0 b) ∧ (∀ b, F6 b → T0 b)) := Lib.hid ⟨fun b hb => (hs6 b hb).elim (HSS.out.1 b) (HTG.out b), fun b hb => (hf6 b hb).elim (HSS.out.2 b) (HTG.out b)⟩
          have HP6 : Hid (T0 p) := Lib.hid (HT6.out.2 p hx6.fp)
          have hs56 : w5.heap.size ≤ w6.heap.size := HM6.out.size
          have SY := walSync hx6 (Nat.le_trans hw5 hs56) (by have := HA3.out.1; omega)
          rw [HA3.out.2] at SY
          have SYH := Lib.hid SY
          clear hx6 hs6 hf6 hm6 SY APH HSS
          go_wp2_with (go_at_call 11; refine SYH.out.mono ?_)
          rintro e w7 ⟨rfl, S7, hx7, hs7, hm7⟩
          have HM7 : Hid (Mods T0 w5 w7) := Lib.hid (HM6.out.trans hm7 (fun i hi => .inl (hi.elim (HT6.out.1 i) (fun e => by rw [e]; exact HP6.out))))
          have HT7 : Hid (∀ b, S7 b → T0 b) := Lib.hid (fun b hb => (hs7 b hb).elim (HT6.out.1 b) (fun h => HTG.out b (Nat.le_trans hs56 h)))
          have hs57 : w5.heap.size ≤ w7.heap.size := HM7.out.size
          have FA := diskFallC mask torn hx7.lb.di (by show (1 : Nat) ≤ _; omega) hm' ht
          rw [fallD_B] at FA
          have FAH := Lib.hid FA
          clear hx7 hs7 hm7 SYH FA HM6 HT6 HA3
          go_wp2_with (go_at_call 12; refine FAH.out.mono ?_)
          rintro e w8 ⟨rfl, hd8, hm8⟩
          have HM8 : Hid (Mods T0 w5 w8) := Lib.hid (HM7.out.trans hm8 (fun i hi => .inl (HT7.out i hi)))
          have HT8 : Hid (∀ b, Sx S7 w7 w8 b → T0 b) := Lib.hid (fun b hb => hb.elim (HT7.out b) (fun h => HTG.out b (Nat.le_trans hs57 h.1)))
          have hs58 : w5.heap.size ≤ w8.heap.size := HM8.out.size
          have HB8 : Hid (Below w.heap.size w w8) := Lib.hid (Mods.old HBW.out HM8.out hw5 (fun i _ h => HTL.out i h))
          have OP := walOpen1 (B := w.heap.size) hd8 rfl (walName 0 1) 0 1 rfl partsN_one (by rw [walName_one]; decide) nameOk_one (by omega) (by omega) (recsB 1 x) (fgetB _ _) (by have := HPX.out.2.2; omega) (stopF_B 4000000 x HPX.out.1 (by have := HPX.out.2.1; omega)) (Nat.le_trans hw5 hs58) (fun b hb => HTL.out b (HT8.out b hb)) (HE.out.below HB8.out) (by show (1 : Nat) ≤ _; omega) (fun q hq => by
            have e : q = (walName 0 1, recsB 1 x) := by simpa [dskB, DSt.files] using hq
            rw [e]; show (walName 0 1).length ≤ _; rw [walName_one]; decide)
          rw [openW_B 4000000 x HPX.out.1 (by have := HPX.out.2.1; omega)] at OP
          have OPH : Hid (Calls Tryz.prog 7 #[.pointer (some ⟨g, 0, none⟩)] w8 fun e w' => ∃ (p : Nat) (S' F' : Nat → Prop), e = .returned (.tuple #[.pointer (some ⟨p, 0, none⟩), .int .i64 0]) ∧ LR w.heap.size S' F' w' p g (lgB x) (dskB 4000000 (recsB 1 x)) ∧ (∀ b, S' b → Sx S7 w7 w8 b ∨ w8.heap.size ≤ b) ∧ (∀ b, F' b → w8.heap.size ≤ b) ∧ Mods (Sx S7 w7 w8) w8 w') := Lib.hid (OP.mono (by
            rintro e w' ⟨p, S', F', rfl, hl, k1, k2, k3⟩
            exact ⟨p, S', F', rfl, hl, k1, k2, k3⟩))
          clear hd8 hm8 FAH HM7 HT7 OP HB8
          go_wp2_with (go_at_call 7; refine OPH.out.mono ?_)
          rintro e w9 ⟨k, S9, F9, rfl, ⟨Z9, Y9, SA9, sc9, RA9, rc9, hx9⟩, hs9, hf9, hm9⟩
          have HM9 : Hid (Mods T0 w5 w9) := Lib.hid (HM8.out.trans hm9 (fun i hi => .inl (HT8.out i hi)))
          have HT9 : Hid ((∀ b, S9 b → T0 b) ∧ (∀ b, F9 b → T0 b)) := Lib.hid ⟨fun b hb => (hs9 b hb).elim (HT8.out b) (fun h => HTG.out b (Nat.le_trans hs58 h)), fun b hb => HTG.out b (Nat.le_trans hs58 (hf9 b hb))⟩
          have hs59 : w5.heap.size ≤ w9.heap.size := HM9.out.size
          have HB9 : Hid (Below w.heap.size w w9) := Lib.hid (Mods.old HBW.out HM9.out hw5 (fun i _ h => HTL.out i h))
          have RY9 : RL T0 w9 Ay My := RY.out.mods HM9.out (fun b _ h => h)
          have AP := walAppend hx9 (Nat.le_trans hw5 hs59) (HE.out.se.below HB9.out) Ay cy My (RY9.weak (fun b hb => hb.elim (HT9.out.1 b) (HT9.out.2 b))) (by omega) (lgB_fine x HPX.out.1 (by have := HPX.out.2.1; omega)) (by show (1 : Nat) ≤ _; omega)
          rw [HMM.out.2] at AP
          have hq := appendW_C 4000000 x y HPY.out.1 (by have := HPY.out.2.2; omega) (by omega) (by have := HPX.out.2.1; omega)
          obtain ⟨q, hqd⟩ : ∃ q, q = appendW (lgB x) (dskB 4000000 (recsB 1 x)) y := ⟨_, rfl⟩
          rw [← hqd] at AP hq
          obtain ⟨hq1, hq2, hq3, hq4⟩ := hq
          rw [hq1] at AP
          have HQ := Lib.hid (And.intro hq2 (And.intro hq3 hq4))
          have APH := Lib.hid AP
          clear hx9 hs9 hf9 hm9 RY9 AP hqd hq1 hq2 hq3 hq4 OPH HM8 HT8
          go_wp2_with (go_at_call 10; refine APH.out.mono ?_)
          rintro e w10 ⟨rfl, S10, F10, ⟨Z10, Y10, SA10, sc10, RA10, rc10, hx10⟩, hs10, hf10, hm10⟩
          have HM10 : Hid (Mods T0 w5 w10) := Lib.hid (HM9.out.trans hm10 (fun i hi => .inl (hi.elim (HT9.out.1 i) (HT9.out.2 i))))
          have hs510 : w5.heap.size ≤ w10.heap.size := HM10.out.size
          have HB10 : Hid (Below w.heap.size w w10) := Lib.hid (Mods.old HBW.out HM10.out hw5 (fun i _ h => HTL.out i h))
          have hxa := (RX.out.mods HM10.out (fun b _ h => h)).rbb
          have hya := (RY.out.mods HM10.out (fun b _ h => h)).rbb
          have ha : Below w10.heap.size w10 (w10.alloc (.cells #[] TB)) := (Below.refl _ _).alloc (Nat.le_refl _) _
          have HO0 := Lib.hid (OR.made0 (base := w10.heap.size) w10 TB 1 (Nat.le_refl _))
          have HRX1 := Lib.hid (rs_of_rv (hxa.below ha).reads)
          have hwa : w10.heap.size ≤ (w10.alloc (.cells #[] TB)).heap.size := ha.size
          have HXA := Lib.hid hxa
          have HYA := Lib.hid hya
          have HX10 := Lib.hid hx10
          have HAL := Lib.hid ha
          obtain ⟨i0, hi0, hz0, hz1, hz2⟩ := info_parts tb_info2
          clear hx10 hs10 hf10 hm10 hxa hya ha APH HM9 HT9 HB9 HM10 RX RY HTG HTL
          go_wp2_with (at_builtin; refine wp_appendS _ rfl (.tmp 138) (.tmp 139) 22 TB rfl Tryz.underlying22 hi0 hz0 hz1 hz2 rfl (by decide) w10.heap.size (some ⟨w10.heap.size, 0, none⟩) Ax 0 cx [] (Mx.map fun t => [.slice t.1 t.2.2.length t.2.1]) rfl (by rw [List.length_map]; rfl) HO0.out HRX1.out slice_rows_len slice_rows_one (by simp; omega) (by simp; omega) hwa ?_)
          intro ys A11 c11 w11 hys hy1 hy2 hrow hg11 hA11
          have hysd : ys = Mx.map fun t => [Value.slice t.1 t.2.2.length t.2.1] := by simpa using hys.out
          have hysl : ys.length ≤ 40 := by rw [hysd, List.length_map]; exact hmxl
          have m11 := Mods.of_grown (S := fun b => b = w10.heap.size) hg11 (fun k e => by
            have : w10.heap.size = k := by simpa using e
            exact this.symm)
          have hb11 : Below w10.heap.size w10 w11 := Mods.old HAL.out m11 hwa (fun i _ e => by rw [e]; exact Nat.le_refl _)
          have HB11 := Lib.hid hb11
          have HRY1 := Lib.hid (rs_of_rv (HYA.out.below hb11).reads)
          have HROW := Lib.hid hrow
          have HYD := Lib.hid hysd
          have hw11 : w10.heap.size ≤ w11.heap.size := hb11.size
          clear hys hy1 hy2 hrow hg11 hA11 hysd m11 hb11 HRX1 HO0 HAL
          go_wp2_with (at_builtin; refine wp_appendS _ rfl (.tmp 140) (.tmp 141) 22 TB rfl Tryz.underlying22 hi0 hz0 hz1 hz2 rfl (by decide) w10.heap.size A11 Ay c11 cy ys (My.map fun t => [.slice t.1 t.2.2.length t.2.1]) rfl (by rw [List.length_map]; rfl) HROW.out HRY1.out slice_rows_len slice_rows_one (by simp; omega) (by simp; omega) hw11 ?_)
          intro ys2 A12 c12 w12 hys2 hy3 hy4 hrow2 hg12 hA12
          have hysd2 : ys2 = (Mx ++ My).map fun t => [Value.slice t.1 t.2.2.length t.2.1] := by rw [List.map_append, ← HYD.out]; exact hys2.out
          have hysl2 : ys2.length = (Mx ++ My).length := by rw [hysd2, List.length_map]
          have hb12 : Below w10.heap.size w10 w12 := Mods.old HB11.out (Mods.of_grown (S := fun b => w10.heap.size ≤ b) hg12 (fun k e => (HROW.out.blk_lt k e).1)) hw11 (fun i _ e => e)
          obtain ⟨w13, hw13⟩ : ∃ w13, w13 = w12.alloc (.cells #[.int .u64 1, .slice A12 ys2.length c12, .int .i64 0] TM5) := ⟨_, rfl⟩
          have hbl : Below w12.heap.size w12 w13 := by rw [hw13]; exact (Below.refl _ _).alloc (Nat.le_refl _) _
          have hb13 : Below w10.heap.size w10 w13 := hb12.trans (hbl.mono hb12.size)
          have hmb : Blk w13 w12.heap.size TM5 #[.int .u64 (q.2.1.first : Int), .slice A12 (Mx ++ My).length c12, .int .i64 0] := by
            rw [HQ.out.2.1, ← hysl2, hw13]
            exact Blk.new w12 _ TM5
          have hrr : RBB w13 A12 (Mx ++ My) := by
            refine ⟨?_, fun t ht => ?_⟩
            · have h := hrow2.rs
              rw [hysd2] at h
              exact (rv_of_rs h).below hbl
            · rcases List.mem_append.1 ht with ht | ht
              · exact (HXA.out.below hb13).each t ht
              · exact (HYA.out.below hb13).each t ht
          have hrl : q.2.1.recs.length ≤ 80 := by
            rw [HQ.out.1, List.length_append]
            have := HPX.out.2.1; have := HPY.out.2.1; omega
          have AK := lawAlike (HX10.out.below hb13) HQ.out.2.2 A12 c12 (Mx ++ My) (.int .i64 0) hmb hrr (by rw [List.map_append, HMM.out.1, HMM.out.2, HQ.out.1]) (by rw [HQ.out.2.1]; exact Nat.le_refl _) (by
            show q.2.1.first + q.2.1.recs.length < _
            rw [HQ.out.2.1]; omega) (fun r hr => by
            rw [HQ.out.1] at hr
            rcases List.mem_append.1 hr with hr | hr
            · have := HPX.out.1 r hr; omega
            · have := HPY.out.1 r hr; omega)
          rw [hw13] at AK
          have AKH := Lib.hid AK
          have HW13 := Lib.hid hw13
          have HB13 := Lib.hid (HB10.out.trans (hb13.mono (Nat.le_trans hw5 hs510)))
          clear hys2 hy3 hy4 hrow2 hg12 hA12 hysd2 hysl2 hb12 hw13 hbl hb13 hmb hrr AK HROW HRY1 HYD HXA HYA HX10 HB10 HQ HPX HPY HMM
          go_wp2_with (go_at_call 13; refine AKH.out.mono ?_)
          rw [← HW13.out]
          first | rintro e w14 rfl hb14 | rintro e w14 ⟨rfl, hb14⟩
          have HB14 : Hid (Below w.heap.size w w14) := Lib.hid (HB13.out.trans (hb14.mono HB13.out.size))
          clear hb14 AKH HW13
          go_wp2_with fail
          go_ret
          exact ⟨rfl, HB14.out⟩
theorem walkWalBackC (A0 : Option Addr) (c0 : Nat) (L0 : List (Option Addr × Nat × List UInt8)) (A1 : Option Addr) (c1 : Nat) (L1 : List (Option Addr × Nat × List UInt8)) (mask torn : Int) (w : World) (f0 : RBB w A0 L0) (n0 : L0.length * 24 ≤ 140737488351232) (f1 : RBB w A1 L1) (n1 : L1.length * 24 ≤ 140737488351232)
    (hm : 0 ≤ mask ∧ mask ≤ 18446744073709551615) (ht : -9223372036854775808 ≤ torn ∧ torn ≤ 9223372036854775807) (hl : laidMetH Tryz.prog Rows.walBackRow.laid w) (hsh : w.ShapedOpen Tryz.prog) :
    Calls Tryz.prog 3 #[.slice A0 L0.length c0, .slice A1 L1.length c1, .int .u64 mask, .int .i64 torn] w fun e w' => e = .returned (.bool true) ∧ Below w.heap.size w w' := by
  obtain ⟨m, hmx⟩ := Tryz.laysM146.s1_3 w hsh
  exact walkWalBack A0 c0 L0 A1 c1 L1 mask torn w f0 (by omega) f1 (by omega) ⟨hm.1, by omega⟩ ht ⟨senv_of hl (by kernel_rfl) (by simp [Rows.walBackRow]) (by simp [Rows.walBackRow]) (by simp [Rows.walBackRow]), m, fun w' hb => (hb.cell (p := ⟨3, 0, none⟩) (World.block_lt_of_cell? w ⟨3, 0, none⟩ hmx)).trans hmx⟩
end Go.Proofs.YtjgonfnpfbifjaaGreatDoor
