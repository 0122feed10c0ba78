/- Contract of codec.PutNum. -/
import Derived.Test.YtekkcbonkjdgeaaBytes
import Derived.Test.YtekkcbonkjdgeaaShelf
import Derived.Test.YtekkcbonkjdgeaaCodecNum
namespace Go.Proofs.Ytekkcbonkjdgeaa
open Go.RowKit

set_option maxHeartbeats 400000 in
theorem putNumB (A : Option Addr) (c : Nat) (b : List UInt8) (n : Int) (w : World) (h : RB w A b) (hl : b.length ≤ 219000000000000) (h0 : 0 ≤ n) (h1 : n ≤ 18446744073709551615) :
    Calls Try.prog 14 #[.slice A b.length c, .int .u64 n] w (NewB w (b ++ putNum n.toNat)) := by
  have hk := bitLen_low n.toNat (by omega)
  have hk8 := low_len n.toNat
  have hb64 : Lib.bitLen n.toNat ≤ 64 := Lib.bitLen_le _ 64 (by omega) (by omega)
  have HK := Lib.hid hk
  clear hk
  go_enter Try.func14, Try.ntmps14
  go_wp2_with fail
  refine (len64 n _ h0 h1).mono ?_
  rintro e w' ⟨rfl, rfl⟩
  obtain ⟨bl, hbl⟩ : ∃ bl, bl = Lib.bitLen n.toNat := ⟨_, rfl⟩
  rw [← hbl]
  rw [← hbl] at hb64 HK
  clear hbl
  go_wp2_with fail
  refine (cloneB A c b _ h (by omega)).mono ?_
  rintro e w1 ⟨k1, A1, c1, hk1, hk2, hk3, rfl, ho1, hb1⟩
  go_wp2_with fail
  refine (clipB A1 c1 k1 _ ho1.cap.1 ho1.cap.2).mono ?_
  rintro e w' ⟨rfl, rfl⟩
  have x1 : (((bl : Int) + 7) / 8) ≤ 8 := by omega
  have x0 : 0 ≤ (((bl : Int) + 7) / 8) := by omega
  have V : ((bl : Int) + 7) / 8 = ((UInt8.ofNat ((bl + 7) / 8)).toNat : Int) := by rw [u8_of (by omega)]; omega
  have HV := Lib.hid V
  clear V
  go_wp2_with (at_builtin; refine wp_appendF _ rfl (.tmp 14) (.tmp 17) rfl w.heap.size _ _ _ _ k1 [UInt8.ofNat ((bl + 7) / 8)] rfl rfl ho1.none_len (ho1.rb.alloc _) (RB.one _ _ HV.out) (by simp) (by simp) (by simp; omega) (by have := hb1.size; simp; omega) ?_; intro k2 A2 c2 w2 hk2' hk21 hk22 ho2 hb2)
  have hkk : k2.length ≤ b.length + 1 := by simp at hk21; omega
  have H2 : Hid (k2 = b ++ UInt8.ofNat ((bl + 7) / 8) :: ((low n.toNat).drop ((bl + 7) / 8)).reverse) := Lib.hid (by
    rw [hk2'.out, hk1.out, HK.out, List.drop_length]; simp)
  have hb2' : Below w.heap.size w w2 := (hb1.alloc hb1.size _).trans (hb2.mono (by have := hb1.size; simp; omega))
  clear hk2' hk1 HV h ho1 hk21 hk22
  go_loopw [6, 7] (fun v i wr => ∃ (j : Nat) (k : List UInt8) (A : Option Addr) (cc : Nat), j ≤ (bl + 7) / 8 ∧ i = .int .i64 ((j : Int) - 1) ∧ v = .slice A k.length cc ∧ k.length + j ≤ b.length + 9 ∧
      Hid (k = b ++ UInt8.ofNat ((bl + 7) / 8) :: ((low n.toNat).drop j).reverse) ∧ OB wr w.heap.size A cc k ∧ Below w.heap.size w wr)
    (fun _ i _ => (intOf i + 1).toNat)
  case atStart => exact ⟨(bl + 7) / 8, k2, A2, c2, by omega, by go_num, rfl, by omega, H2, ho2, hb2'⟩
  case round =>
    obtain ⟨j, k, A3, c3, hj, rfl, rfl, hk9, hkk3, ho3, hb3⟩ := hrel
    by_cases hj0 : j = 0
    · subst hj0
      go_wp2_with fail
      go_ret
      exact newB (by rw [hkk3.out, HK.out]; simp [putNum]) ho3 hb3
    · obtain ⟨i, rfl⟩ : ∃ i, j = i + 1 := ⟨j - 1, by omega⟩
      clear hj0
      have HV := Lib.hid (shr_byte n i h0)
      go_wp2_with (at_builtin; refine wp_appendB _ rfl (.tmp 25) (.tmp 31) rfl w.heap.size _ _ _ _ k [UInt8.ofNat (n.toNat / 256 ^ i % 256)] rfl rfl (ho3.alloc _) (RB.one _ _ HV.out) (by simp; omega) (by have := hb3.size; simp; omega) ?_; intro k4 A4 c4 w4 hk4 hk41 hk42 ho4 hg4)
      have hk4b : k4.length ≤ k.length + 1 := by simpa using hk41
      have hb4 : Below w.heap.size w w4 := (hb3.alloc hb3.size _).grown hg4 (by have := hb3.size; simp; omega) fun g hg => (ho3.own_lt g hg).1
      have H4 : Hid (k4 = b ++ UInt8.ofNat ((bl + 7) / 8) :: ((low n.toNat).drop i).reverse) := Lib.hid (by
        have hi : i < (low n.toNat).length := by have := HK.out; omega
        rw [hk4.out, hkk3.out, drop_rev hi, low_get _ _ hi]; simp)
      clear hk4 hk41 hk42 hg4 HV hb3 ho3 hkk3
      go_roundw
      case rel => exact ⟨i, k4, A4, c4, by omega, by go_num, rfl, by omega, H4, ho4, hb4⟩
      case measure => simp [intOf]

theorem lowF_step (f m : Nat) (h : m ≠ 0) (hm : m < 256 ^ f) : ∃ g, f = g + 1 ∧ lowF f m = UInt8.ofNat (m % 256) :: lowF g (m / 256) ∧ m / 256 < 256 ^ g := by
  match f with
  | 0 => simp at hm; omega
  | g + 1 => exact ⟨g, rfl, by simp [lowF, h], by rw [Nat.pow_succ] at hm; omega⟩

set_option maxHeartbeats 400000 in
theorem refPutNum (N : Int) (w : World) (h0 : 0 ≤ N) (h1 : N ≤ 18446744073709551615) :
    Calls Try.prog 18 #[.int .u64 N] w (NewB w (putNum N.toNat)) := by
  go_enter Try.func18, Try.ntmps18
  go_wp2_with fail
  go_loopw [0, 3] (fun i v wr => ∃ (m f : Nat) (k : List UInt8) (A : Option Addr) (cc : Nat), i = .int .u64 (m : Int) ∧ v = .slice A k.length cc ∧ k.length + f ≤ 8 ∧ m ≤ 18446744073709551615 ∧
      Hid (k ++ lowF f m = low N.toNat) ∧ Hid (m < 256 ^ f) ∧ OB wr w.heap.size A cc k ∧ Below w.heap.size w wr)
    (fun i _ _ => (intOf i).toNat)
  case atStart => exact ⟨N.toNat, 8, [], none, 0, by rw [Int.toNat_of_nonneg h0], rfl, by simp, by omega, Lib.hid rfl, Lib.hid (by omega), OB.nil _ _, Below.refl _ _⟩
  case round =>
    obtain ⟨m, f, k, A, cc, rfl, rfl, hf, hm, hk, hmf, ho, hb⟩ := hrel
    by_cases hm0 : m = 0
    · subst hm0
      rw [show ((0 : Nat) : Int) = 0 from rfl]
      have hk8 : k.length ≤ 8 := by omega
      have HL := Lib.hid (show k = low N.toNat by rw [← hk.out, lowF_zero]; simp)
      clear hk hmf hm hf
      obtain ⟨wo, rfl⟩ : ∃ wo : World, wo = wr := ⟨_, rfl⟩
      have V : ((k.length : Nat) : Int) = ((UInt8.ofNat k.length).toNat : Int) := by rw [u8_of (by omega)]
      have HV := Lib.hid V
      clear V
      go_wp2_with fail
      go_loopw [4, 5] (fun v i wx => ∃ (j : Nat) (q : List UInt8) (B : Option Addr) (cb : Nat), j ≤ k.length ∧ i = .int .i64 ((j : Int) - 1) ∧ v = .slice B q.length cb ∧ q.length + j ≤ 9 ∧
          Hid (q = UInt8.ofNat k.length :: (k.drop j).reverse) ∧ OB wx wo.heap.size B cb q ∧ Below wo.heap.size wo wx)
        (fun _ i _ => (intOf i + 1).toNat)
      case atStart => exact ⟨k.length, [UInt8.ofNat k.length], some ⟨wo.heap.size, 0, none⟩, 1, by omega, by go_num, rfl, by simp; omega, Lib.hid (by simp), OB.lit1 _ (Nat.le_refl _) _ HV.out, (Below.refl _ _).alloc (Nat.le_refl _) _⟩
      case round =>
        clear HV
        obtain ⟨j, q, B, cb, hj, rfl, rfl, hq9, hq, hoq, hbq⟩ := hrel
        by_cases hj0 : j = 0
        · subst hj0
          go_wp2_with fail
          go_ret
          exact newB (by rw [hq.out, HL.out]; simp [putNum]) (hoq.base_le hb.size) (hb.trans (hbq.mono hb.size))
        · obtain ⟨i, rfl⟩ : ∃ i, j = i + 1 := ⟨j - 1, by omega⟩
          clear hj0
          obtain ⟨bk, ok, eA, hbk, hc⟩ := (ho.rb.below hbq).cell (show i < k.length by omega)
          subst eA
          go_wp2_with (at_builtin; refine wp_appendB _ rfl (.tmp 27) (.tmp 32) rfl wo.heap.size _ _ _ _ q [k[i]] rfl rfl (hoq.alloc _) (RB.one _ _ rfl) (by simp; omega) (by have := hbq.size; simp; omega) ?_; intro k4 A4 c4 w4 hk4 hk41 hk42 ho4 hg4)
          have hk4b : k4.length ≤ q.length + 1 := by simpa using hk41
          have hb4 : Below wo.heap.size wo w4 := (hbq.alloc hbq.size _).grown hg4 (by have := hbq.size; simp; omega) fun g hg => (hoq.own_lt g hg).1
          have H4 : Hid (k4 = UInt8.ofNat k.length :: (k.drop i).reverse) := Lib.hid (by
            rw [hk4.out, hq.out, drop_rev (show i < k.length by omega)]; simp)
          clear hk4 hk41 hk42 hg4 hbq hoq hq hc
          go_roundw
          case rel => exact ⟨i, k4, A4, c4, by omega, by go_num, rfl, by omega, H4, ho4, hb4⟩
          case measure => simp [intOf]
    · obtain ⟨g, rfl, e1, e2⟩ := lowF_step f m hm0 hmf.out
      have E1 := Lib.hid e1
      have E2 := Lib.hid e2
      clear e1 e2 hmf
      have V : (m : Int) % 256 = ((UInt8.ofNat (m % 256)).toNat : Int) := by rw [u8_of (by omega)]; omega
      have HV := Lib.hid V
      clear V
      go_wp2_with (at_builtin; refine wp_appendB _ rfl (.tmp 8) (.tmp 12) rfl w.heap.size _ _ _ _ k [UInt8.ofNat (m % 256)] rfl rfl (ho.alloc _) (RB.one _ _ HV.out) (by simp; omega) (by have := hb.size; simp; omega) ?_; intro k4 A4 c4 w4 hk4 hk41 hk42 ho4 hg4)
      have hk4b : k4.length ≤ k.length + 1 := by simpa using hk41
      have hb4 : Below w.heap.size w w4 := (hb.alloc hb.size _).grown hg4 (by have := hb.size; simp; omega) fun g hg => (ho.own_lt g hg).1
      have H4 : Hid (k4 ++ lowF g (m / 256) = low N.toNat) := Lib.hid (by rw [hk4.out, ← hk.out, E1.out]; simp)
      clear hk4 hk41 hk42 hg4 HV hb ho hk E1
      go_roundw
      case rel => exact ⟨m / 256, g, k4, A4, c4, by go_num, rfl, by omega, by omega, H4, E2, ho4, hb4⟩
      case measure => simp [intOf]; omega
end Go.Proofs.Ytekkcbonkjdgeaa
