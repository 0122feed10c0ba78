/- Contract of codec.PutNum. -/
import Derived.Test.YtjgonfnpfbifjaaGreatDoorCloneB
import Derived.Test.YtjgonfnpfbifjaaGreatDoorShelf
import Derived.Test.YtjgonfnpfbifjaaGreatDoorCrcN
namespace Go.Proofs.YtjgonfnpfbifjaaGreatDoor
open Go.RowKit

set_option maxHeartbeats 400000 in
theorem putNumB (A : Option Addr) (c : Nat) (b : List UInt8) (n : Int) (w : World) (h : RB w A b) (hl : b.length ≤ 219000000000000) (h0 : 0 ≤ n) (h1 : n ≤ 18446744073709551615) :
    Calls Tryz.prog 31 #[.slice A b.length c, .int .u64 n] w (NewB w (b ++ putNum n.toNat)) := by
  have hk := bitLen_low n.toNat (by omega)
  have hk8 := low_len n.toNat
  have hb64 : Lib.bitLen n.toNat ≤ 64 := Lib.bitLen_le _ 64 (by omega) (by omega)
  have HK := Lib.hid hk
  clear hk
  go_enter Tryz.func31, Tryz.ntmps31
  go_wp2_with fail
  refine (len64 n _ h0 h1).mono ?_
  rintro e w' ⟨rfl, rfl⟩
  obtain ⟨bl, hbl⟩ : ∃ bl, bl = Lib.bitLen n.toNat := ⟨_, rfl⟩
  rw [← hbl]
  rw [← hbl] at hb64 HK
  clear hbl
  go_wp2_with fail
  refine (cloneB A c b _ h (by omega)).mono ?_
  rintro e w1 ⟨k1, A1, c1, hk1, hk2, hk3, rfl, ho1, hb1⟩
  go_wp2_with fail
  refine (clipB A1 c1 k1 _ ho1.cap.1 ho1.cap.2).mono ?_
  rintro e w' ⟨rfl, rfl⟩
  have x1 : (((bl : Int) + 7) / 8) ≤ 8 := by omega
  have x0 : 0 ≤ (((bl : Int) + 7) / 8) := by omega
  have V : ((bl : Int) + 7) / 8 = ((UInt8.ofNat ((bl + 7) / 8)).toNat : Int) := by rw [u8_of (by omega)]; omega
  have HV := Lib.hid V
  clear V
  go_wp2_with (at_builtin; refine wp_appendF _ rfl (.tmp 14) (.tmp 17) rfl w.heap.size _ _ _ _ k1 [UInt8.ofNat ((bl + 7) / 8)] rfl rfl ho1.none_len (ho1.rb.alloc _) (RB.one _ _ HV.out) (by simp) (by simp) (by simp; omega) (by have := hb1.size; simp; omega) ?_; intro k2 A2 c2 w2 hk2' hk21 hk22 ho2 hb2)
  have hkk : k2.length ≤ b.length + 1 := by simp at hk21; omega
  have H2 : Hid (k2 = b ++ UInt8.ofNat ((bl + 7) / 8) :: ((low n.toNat).drop ((bl + 7) / 8)).reverse) := Lib.hid (by
    rw [hk2'.out, hk1.out, HK.out, List.drop_length]; simp)
  have hb2' : Below w.heap.size w w2 := (hb1.alloc hb1.size _).trans (hb2.mono (by have := hb1.size; simp; omega))
  clear hk2' hk1 HV h ho1 hk21 hk22
  go_loopw [6, 7] (fun v i wr => ∃ (j : Nat) (k : List UInt8) (A : Option Addr) (cc : Nat), j ≤ (bl + 7) / 8 ∧ i = .int .i64 ((j : Int) - 1) ∧ v = .slice A k.length cc ∧ k.length + j ≤ b.length + 9 ∧
      Hid (k = b ++ UInt8.ofNat ((bl + 7) / 8) :: ((low n.toNat).drop j).reverse) ∧ OB wr w.heap.size A cc k ∧ Below w.heap.size w wr)
    (fun _ i _ => (intOf i + 1).toNat)
  case atStart => exact ⟨(bl + 7) / 8, k2, A2, c2, by omega, by go_num, rfl, by omega, H2, ho2, hb2'⟩
  case round =>
    obtain ⟨j, k, A3, c3, hj, rfl, rfl, hk9, hkk3, ho3, hb3⟩ := hrel
    by_cases hj0 : j = 0
    · subst hj0
      go_wp2_with fail
      go_ret
      exact newB (by rw [hkk3.out, HK.out]; simp [putNum]) ho3 hb3
    · obtain ⟨i, rfl⟩ : ∃ i, j = i + 1 := ⟨j - 1, by omega⟩
      clear hj0
      have HV := Lib.hid (shr_byte n i h0)
      go_wp2_with (at_builtin; refine wp_appendB _ rfl (.tmp 25) (.tmp 31) rfl w.heap.size _ _ _ _ k [UInt8.ofNat (n.toNat / 256 ^ i % 256)] rfl rfl (ho3.alloc _) (RB.one _ _ HV.out) (by simp; omega) (by have := hb3.size; simp; omega) ?_; intro k4 A4 c4 w4 hk4 hk41 hk42 ho4 hg4)
      have hk4b : k4.length ≤ k.length + 1 := by simpa using hk41
      have hb4 : Below w.heap.size w w4 := (hb3.alloc hb3.size _).grown hg4 (by have := hb3.size; simp; omega) fun g hg => (ho3.own_lt g hg).1
      have H4 : Hid (k4 = b ++ UInt8.ofNat ((bl + 7) / 8) :: ((low n.toNat).drop i).reverse) := Lib.hid (by
        have hi : i < (low n.toNat).length := by have := HK.out; omega
        rw [hk4.out, hkk3.out, drop_rev hi, low_get _ _ hi]; simp)
      clear hk4 hk41 hk42 hg4 HV hb3 ho3 hkk3
      go_roundw
      case rel => exact ⟨i, k4, A4, c4, by omega, by go_num, rfl, by omega, H4, ho4, hb4⟩
      case measure => simp [intOf]

theorem lowF_step (f m : Nat) (h : m ≠ 0) (hm : m < 256 ^ f) : ∃ g, f = g + 1 ∧ lowF f m = UInt8.ofNat (m % 256) :: lowF g (m / 256) ∧ m / 256 < 256 ^ g := by
  match f with
  | 0 => simp at hm; omega
  | g + 1 => exact ⟨g, rfl, by simp [lowF, h], by rw [Nat.pow_succ] at hm; omega⟩

end Go.Proofs.YtjgonfnpfbifjaaGreatDoor
