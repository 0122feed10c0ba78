/- Contracts of four, Frame and the reference's. -/
import Derived.Test.YtekkcbonkjdgeaaCrc
namespace Go.Proofs.Ytekkcbonkjdgeaa
open Go.RowKit

/-- A number in four bytes. -/
def fourB (n : Nat) : List UInt8 := [UInt8.ofNat (n / 16777216), UInt8.ofNat (n / 65536 % 256), UInt8.ofNat (n / 256 % 256), UInt8.ofNat (n % 256)]
/-- Data in a frame. -/
def frameB (d : List UInt8) : List UInt8 := fourB d.length ++ fourB (crc (fourB d.length ++ d)) ++ d
theorem fourB_len (n : Nat) : (fourB n).length = 4 := rfl
theorem u8_ofNat {n : Nat} (h : n < 256) : ((UInt8.ofNat n).toNat : Int) = (n : Int) := by
  rw [UInt8.toNat_ofNat']; omega

theorem OB.lit4 (w : World) {base : Nat} (hb : base ≤ w.heap.size) (x0 x1 x2 x3 : UInt8) {V0 V1 V2 V3 : Int} (h0 : V0 = (x0.toNat : Int)) (h1 : V1 = (x1.toNat : Int)) (h2 : V2 = (x2.toNat : Int)) (h3 : V3 = (x3.toNat : Int)) :
    OB (w.alloc (.cells #[.int .u8 V0, .int .u8 V1, .int .u8 V2, .int .u8 V3] 5)) base (some ⟨w.heap.size, 0, none⟩) 4 [x0, x1, x2, x3] := by
  subst h0; subst h1; subst h2; subst h3
  exact World.ownsRow_lit w (bcells [x0, x1, x2, x3]).toArray 4 hb (by unfold maxLen; omega) rfl

set_option maxHeartbeats 400000 in
theorem codecFour (n : Int) (w : World) (h0 : 0 ≤ n) (h1 : n ≤ 4294967295) :
    Calls Try.prog 46 #[.int .u32 n] w (NewB w (fourB n.toNat)) := by
  obtain ⟨m, rfl⟩ := Int.eq_ofNat_of_zero_le h0
  go_enter Try.func46, Try.ntmps46
  go_wp2_with fail
  go_ret
  refine newB (k := [UInt8.ofNat (m / 16777216), UInt8.ofNat (m / 65536 % 256), UInt8.ofNat (m / 256 % 256), UInt8.ofNat (m % 256)]) (by simp [fourB]) (OB.lit4 w (Nat.le_refl _) _ _ _ _ ?_ ?_ ?_ ?_) ((Below.refl _ _).alloc (Nat.le_refl _) _)
  all_goals (rw [u8_ofNat (by omega)]; omega)

set_option maxHeartbeats 400000 in
theorem refFour (n : Int) (w : World) (h0 : 0 ≤ n) (h1 : n ≤ 4294967295) :
    Calls Try.prog 47 #[.int .u32 n] w (NewB w (fourB n.toNat)) := by
  obtain ⟨m, rfl⟩ := Int.eq_ofNat_of_zero_le h0
  go_enter Try.func47, Try.ntmps47
  go_wp2_with fail
  go_ret
  refine newB (k := [UInt8.ofNat (m / 16777216), UInt8.ofNat (m / 65536 % 256), UInt8.ofNat (m / 256 % 256), UInt8.ofNat (m % 256)]) (by simp [fourB]) (OB.lit4 w (Nat.le_refl _) _ _ _ _ ?_ ?_ ?_ ?_) ((Below.refl _ _).alloc (Nat.le_refl _) _)
  all_goals (rw [u8_ofNat (by omega)]; omega)

/-- What a function that answers new bytes and an error ends in. -/
def NewBE (w : World) (l : List UInt8) (err : Int) (e : Ending) (w' : World) : Prop :=
  ∃ (k : List UInt8) (A : Option Addr) (c : Nat), Hid (k = l) ∧ k.length ≤ l.length ∧ l.length ≤ k.length ∧ e = .returned (.tuple #[.slice A k.length c, .int .i64 err]) ∧ OB w' w.heap.size A c k ∧ Below w.heap.size w w'
theorem newBE {w w' : World} {l k : List UInt8} {A : Option Addr} {c : Nat} {err : Int} (hk : k = l) (h : OB w' w.heap.size A c k) (hb : Below w.heap.size w w') : NewBE w l err (.returned (.tuple #[.slice A k.length c, .int .i64 err])) w' :=
  ⟨k, A, c, Lib.hid hk, by rw [hk]; exact Nat.le_refl _, by rw [hk]; exact Nat.le_refl _, rfl, h, hb⟩
theorem crc_le (l : List UInt8) : crc l ≤ 4294967295 := by unfold crc; omega
theorem frameB_len (d : List UInt8) : (frameB d).length = 8 + d.length := by simp [frameB, fourB]; omega

set_option maxHeartbeats 1000000 in
theorem codecFrame_large (A : Option Addr) (c : Nat) (d : List UInt8) (w : World) (hl : 65536 < d.length) (hm : d.length ≤ 9223372036854775807) :
    Calls Try.prog 20 #[.slice A d.length c] w fun e w' => e = .returned (.tuple #[.slice none 0 0, .int .i64 7]) ∧ w = w' := by
  have h1 : (65536 : Int) < (d.length : Int) := by omega
  go_enter Try.func20, Try.ntmps20
  go_wp2_with fail
  go_ret2
  exact ⟨rfl, rfl⟩

set_option maxHeartbeats 1000000 in
theorem codecFrame (A : Option Addr) (c : Nat) (d : List UInt8) (w : World) (h : RB w A d) (hl : d.length ≤ 65536) :
    Calls Try.prog 20 #[.slice A d.length c] w (NewBE w (frameB d) 0) := by
  have h1 : ¬ (65536 : Int) < (d.length : Int) := by omega
  go_enter Try.func20, Try.ntmps20
  go_wp2_with fail
  refine (codecFour d.length w (by omega) (by omega)).mono ?_
  rintro e w1 ⟨k1, A1, c1, hk1, hk11, hk12, rfl, ho1, hb1⟩
  have hk1l : k1.length = 4 := by rw [hk1.out]; rfl
  have hk1l1 : k1.length ≤ 4 := by omega
  have hk1l2 : 4 ≤ k1.length := by omega
  have E1 : Hid (k1 = fourB d.length) := Lib.hid (by rw [hk1.out, Int.toNat_natCast])
  clear hk1 hk11 hk12 hk1l
  go_wp2_with fail
  have C2 := codecSum (some ⟨w1.heap.size, 0, none⟩) 2 [(A1, c1, k1), (A, c, d)] _ (RBB.two_at _ c1 c rfl ho1.rb (h.below hb1) (by omega) (by omega)) (by simp)
  have hall : allB [(A1, c1, k1), (A, c, d)] = k1 ++ d := by simp [allB]
  rw [hall] at C2
  have hcr := crc_le (k1 ++ d)
  obtain ⟨s, hs⟩ : ∃ s, s = crc (k1 ++ d) := ⟨_, rfl⟩
  rw [← hs] at C2 hcr
  have HS := Lib.hid hs
  clear hs hall
  refine C2.mono ?_
  rintro e w2 ⟨rfl, hb2⟩
  clear C2
  have B2 : Below w.heap.size w w2 := (hb1.alloc hb1.size _).trans (hb2.mono (by have := hb1.size; simp; omega))
  have ho2 : OB w2 w.heap.size A1 c1 k1 := (ho1.alloc _).below hb2
  clear hb2 ho1 hb1
  go_wp2_with fail
  refine (codecFour s w2 (by omega) (by omega)).mono ?_
  rintro e w3 ⟨k3, A3, c3, hk3, hk31, hk32, rfl, ho3, hb3⟩
  have hk3l1 : k3.length ≤ 4 := by rw [hk3.out, fourB_len]; omega
  have E3 : Hid (k3 = fourB s) := Lib.hid (by rw [hk3.out, Int.toNat_natCast])
  have B3 : Below w.heap.size w w3 := B2.trans (hb3.mono B2.size)
  have ho2' := ho2.below hb3
  clear hk3 hk31 hk32 ho2 hb3
  go_wp2_with (first
    | (at_builtin; refine wp_appendB _ rfl (.tmp 12) (.tmp 17) rfl w.heap.size _ _ _ _ k1 k3 rfl rfl ho2' ho3.rb (by omega) B3.size ?_; intro k4 A4 c4 w4 hk4 hk41 hk42 ho4 hg4; have B4 : Below w.heap.size w w4 := B3.grown hg4 B3.size fun g hg => (ho2'.own_lt g hg).1; have hd4 := h.below B4)
    | (at_builtin; refine wp_appendB _ rfl (.tmp 19) (.tmp 20) rfl w.heap.size _ _ _ _ k4 d rfl rfl ho4 hd4 (by omega) B4.size ?_; intro k5 A5 c5 w5 hk5 hk51 hk52 ho5 hg5))
  go_ret2
  exact newBE (by rw [hk5.out, hk4.out, E3.out, HS.out, E1.out]; simp [frameB]) ho5 (B4.grown hg5 B4.size fun g hg => (ho4.own_lt g hg).1)

theorem refBits_last {l : List UInt8} {k s : Nat} {x : UInt8} (hlt : k < l.length) (hs : s = crcL 4294967295 (l.take k)) (hx : x = l[k]) : refBits 8 s x.toNat = crcL 4294967295 (l.take (k + 1)) := by
  rw [List.take_succ_eq_append_getElem hlt, crcL_snoc, ← hs, ← hx, byte_eq _ _ (by have := x.toNat_lt; omega)]

set_option maxHeartbeats 1000000 in
theorem refSum (A : Option Addr) (c : Nat) (l : List UInt8) (w : World) (h : RB w A l) (hl : l.length ≤ 9223372036854775807) :
    Calls Try.prog 23 #[.slice A l.length c] w fun e w' => e = .returned (.int .u32 (crc l)) ∧ w = w' := by
  go_enter Try.func23, Try.ntmps23
  go_wp2_with fail
  go_loop [3, 4] (fun v i => ∃ k : Nat, k ≤ l.length ∧ i = .int .i64 (k : Int) ∧ v = .int .u32 (crcL 4294967295 (l.take k) : Nat))
    (fun _ i => l.length - (intOf i).toNat)
  case atStart => exact ⟨0, Nat.zero_le _, rfl, rfl⟩
  case round =>
    obtain ⟨k, hk, rfl, rfl⟩ := hrel
    by_cases hlt : k < l.length
    · obtain ⟨b, off, rfl, hb, hc⟩ := h.cell hlt
      have hs : crcL 4294967295 (l.take k) < 4294967296 := crcL_lt (by omega) _
      obtain ⟨s, hs'⟩ : ∃ s, s = crcL 4294967295 (l.take k) := ⟨_, rfl⟩
      rw [← hs'] at hs ⊢
      have HS := Lib.hid hs'
      obtain ⟨x, hx'⟩ : ∃ x, x = l[k] := ⟨_, rfl⟩
      rw [← hx'] at hc
      have HX := Lib.hid hx'
      clear hs' hx'
      have hxx := x.toNat_lt
      go_wp2_with fail
      go_loop [3, 5] (fun v i => ∃ j : Nat, j ≤ 8 ∧ i = .int .i64 (j : Int) ∧ v = .int .u32 (refBits j s x.toNat : Nat))
        (fun _ i => 8 - (intOf i).toNat)
      case atStart => exact ⟨0, Nat.zero_le _, rfl, rfl⟩
      case round =>
        obtain ⟨j, hj, rfl, rfl⟩ := hrel
        by_cases hj8 : j < 8
        · have hr : refBits j s x.toNat < 4294967296 := refBits_lt j hs
          obtain ⟨r, hr'⟩ : ∃ r, r = refBits j s x.toNat := ⟨_, rfl⟩
          rw [← hr'] at hr ⊢
          have HR := Lib.hid hr'
          clear hr'
          have hx1 : bits BinOp.xor IntKind.u32 ((r : Int) / 2) 3988292384 = ((r / 2 ^^^ 3988292384 : Nat) : Int) := u32_xor_nat (r / 2) 3988292384 (by omega) (by omega)
          have hp : 0 ≤ (x.toNat : Int) / 2 ^ j := Int.ediv_nonneg (by omega) (Int.le_of_lt (Int.pow_pos (by omega)))
          by_cases ht : x.toNat / 2 ^ j % 2 = r % 2
          · have HT := Lib.hid ht
            have ht1 : (((x.toNat : Int) / 2 ^ j % 2) != ((r : Int) % 2)) = false := by
              have : (x.toNat : Int) / 2 ^ j % 2 = (r : Int) % 2 := by
                have := congrArg (fun n : Nat => (n : Int)) ht
                simpa using this
              simp [this]
            clear ht
            go_wp2_with fail
            go_round
            case rel => exact ⟨j + 1, by omega, by go_num, by
              rw [refBits_succ, ← HR.out, refBit, if_neg (by rw [HT.out]; simp)]; simp⟩
            case measure => simp [intOf]; omega
          · have HT := Lib.hid ht
            have ht1 : (((x.toNat : Int) / 2 ^ j % 2) != ((r : Int) % 2)) = true := by
              have : (x.toNat : Int) / 2 ^ j % 2 ≠ (r : Int) % 2 := by
                intro hh
                apply ht
                have : ((x.toNat / 2 ^ j % 2 : Nat) : Int) = ((r % 2 : Nat) : Int) := by simpa using hh
                exact_mod_cast this
              simpa using this
            clear ht
            go_wp2_with fail
            go_round
            case rel => exact ⟨j + 1, by omega, by go_num, by
              rw [refBits_succ, ← HR.out, refBit, if_pos (by simpa using HT.out)]; rfl⟩
            case measure => simp [intOf]; omega
        · obtain rfl : j = 8 := by omega
          go_wp2_with fail
          go_round
          case rel => exact ⟨k + 1, by omega, by go_num, by rw [refBits_last hlt HS.out HX.out]⟩
          case measure => simp [intOf]; omega
    · obtain rfl : k = l.length := by omega
      have hs : crcL 4294967295 l < 4294967296 := crcL_lt (by omega) _
      rw [List.take_of_length_le (Nat.le_refl _)]
      have hfin : Hid (((crc l : Nat) : Int) = 4294967295 - ((crcL 4294967295 l : Nat) : Int)) := Lib.hid (by unfold crc; omega)
      generalize crcL 4294967295 l = s at *
      go_wp2_with fail
      go_ret
      exact ⟨ret_intB (by rw [hfin.out]), rfl⟩

set_option maxHeartbeats 1000000 in
theorem refFrame_large (A : Option Addr) (c : Nat) (d : List UInt8) (w : World) (hl : 65536 < d.length) (hm : d.length ≤ 9223372036854775807) :
    Calls Try.prog 21 #[.slice A d.length c] w fun e w' => e = .returned (.tuple #[.slice none 0 0, .int .i64 7]) ∧ w = w' := by
  have h1 : (65536 : Int) < (d.length : Int) := by omega
  go_enter Try.func21, Try.ntmps21
  go_wp2_with fail
  go_ret2
  exact ⟨rfl, rfl⟩

set_option maxHeartbeats 1000000 in
theorem refFrame (A : Option Addr) (c : Nat) (d : List UInt8) (w : World) (h : RB w A d) (hl : d.length ≤ 65536) :
    Calls Try.prog 21 #[.slice A d.length c] w (NewBE w (frameB d) 0) := by
  have h1 : ¬ (65536 : Int) < (d.length : Int) := by omega
  go_enter Try.func21, Try.ntmps21
  go_wp2_with fail
  refine (refFour d.length w (by omega) (by omega)).mono ?_
  rintro e w1 ⟨k1, A1, c1, hk1, hk11, hk12, rfl, ho1, hb1⟩
  have hk1l1 : k1.length ≤ 4 := by rw [hk1.out]; exact Nat.le_of_eq rfl
  have E1 : Hid (k1 = fourB d.length) := Lib.hid (by rw [hk1.out, Int.toNat_natCast])
  have hd1 := h.below hb1
  clear hk1 hk11 hk12
  go_wp2_with (first
    | (at_builtin; refine wp_appendB _ rfl (.tmp 14) (.tmp 15) rfl w1.heap.size _ _ _ _ [] k1 rfl rfl (OB.made0 _ (Nat.le_refl _)) (ho1.rb.alloc _) (by simp; omega) (by simp) ?_; intro k2 A2 c2 w2 hk2 hk21 hk22 ho2 hg2; have B2 : Below w1.heap.size w1 w2 := ((Below.refl _ _).alloc (Nat.le_refl _) _).grown hg2 (by simp) (by simp [Value.ownBlock]); have hd2 := hd1.below B2; have hk2b : k2.length ≤ 4 := by simp at hk21; omega)
    | (at_builtin; refine wp_appendB _ rfl (.tmp 16) (.tmp 17) rfl w1.heap.size _ _ _ _ k2 d rfl rfl ho2 hd2 (by omega) B2.size ?_; intro k3 A3 c3 w3 hk3 hk31 hk32 ho3 hg3; have B3 : Below w1.heap.size w1 w3 := B2.grown hg3 B2.size fun g hg => (ho2.own_lt g hg).1; have ho13 := ho1.below B3)
    | (at_builtin; refine wp_appendB _ rfl (.tmp 19) (.tmp 20) rfl w3.heap.size _ _ _ _ [] k1 rfl rfl (OB.made0 _ (Nat.le_refl _)) (ho13.rb.alloc _) (by simp; omega) (by simp) ?_; intro k4 A4 c4 w4 hk4 hk41 hk42 ho4 hg4; have B4 : Below w3.heap.size w3 w4 := ((Below.refl _ _).alloc (Nat.le_refl _) _).grown hg4 (by simp) (by simp [Value.ownBlock])))
  have E3 : Hid (k3 = k1 ++ d) := Lib.hid (by rw [hk3.out, hk2.out]; simp)
  have E4 : Hid (k4 = k1) := Lib.hid (by rw [hk4.out]; simp)
  have hk3b : k3.length ≤ 4 + d.length := by omega
  have hk4b : k4.length ≤ 4 := by simp at hk41; omega
  have C2 := refSum A3 c3 k3 w4 (ho3.rb.below B4) (by omega)
  have hcr := crc_le k3
  obtain ⟨s, hs⟩ : ∃ s, s = crc k3 := ⟨_, rfl⟩
  rw [← hs] at C2 hcr
  have HS := Lib.hid hs
  have BW : Below w.heap.size w w4 := hb1.trans ((B3.mono hb1.size).trans (B4.mono (Nat.le_trans hb1.size B3.size)))
  have hd4 := ((hd1.below B3).below B4)
  clear hs hk2 hk3 hk4 hk21 hk22 hk31 hk32 hk41 hk42 hg2 hg3 hg4 ho13 ho2 ho1 hd2 hd1
  refine C2.mono ?_
  rintro e w' ⟨rfl, rfl⟩
  clear C2
  go_wp2_with fail
  refine (refFour s w4 (by omega) (by omega)).mono ?_
  rintro e w5 ⟨k5, A5, c5, hk5, hk51, hk52, rfl, ho5, hb5⟩
  have hk5b : k5.length ≤ 4 := by rw [hk5.out, fourB_len]; omega
  have E5 : Hid (k5 = fourB s) := Lib.hid (by rw [hk5.out, Int.toNat_natCast])
  have B5 : Below w.heap.size w w5 := BW.trans (hb5.mono BW.size)
  have hb3w : w.heap.size ≤ w3.heap.size := Nat.le_trans hb1.size B3.size
  have ho45 := (ho4.below hb5).base_le hb3w
  have hd5 := hd4.below hb5
  clear hk5 hk51 hk52 ho4 hb5 hd4 ho3
  go_wp2_with (first
    | (at_builtin; refine wp_appendB _ rfl (.tmp 21) (.tmp 24) rfl w.heap.size _ _ _ _ k4 k5 rfl rfl ho45 ho5.rb (by omega) B5.size ?_; intro k6 A6 c6 w6 hk6 hk61 hk62 ho6 hg6; have B6 : Below w.heap.size w w6 := B5.grown hg6 B5.size fun g hg => (ho45.own_lt g hg).1; have hd6 : RB w6 A d := h.below B6)
    | (at_builtin; refine wp_appendB _ rfl (.tmp 26) (.tmp 27) rfl w.heap.size _ _ _ _ k6 d rfl rfl ho6 hd6 (by omega) B6.size ?_; intro k7 A7 c7 w7 hk7 hk71 hk72 ho7 hg7))
  go_ret2
  exact newBE (by rw [hk7.out, hk6.out, E5.out, E4.out, HS.out, E3.out, E1.out]; simp [frameB]) ho7 (B6.grown hg7 B6.size fun g hg => (ho6.own_lt g hg).1)
end Go.Proofs.Ytekkcbonkjdgeaa
