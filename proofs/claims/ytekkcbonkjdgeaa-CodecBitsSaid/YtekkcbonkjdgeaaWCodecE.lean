/- The walk of the law CodecBits. -/
import Derived.Test.YtekkcbonkjdgeaaReadE
import Derived.Test.YtekkcbonkjdgeaaBitsNum
import Derived.Test.YtekkcbonkjdgeaaText
import Derived.Test.YtekkcbonkjdgeaaLift
import Derived.Test.YtekkcbonkjdgeaaI64
import Derived.Test.YtekkcbonkjdgeaaFr
namespace Go.Proofs.Ytekkcbonkjdgeaa
open Go.RowKit

theorem frame_four (d : List UInt8) : frameB d = four4 d.length ++ four4 (crc (four4 d.length ++ d)) ++ d := rfl

theorem flip_byte (x : UInt8) (m : Nat) (hm : m < 8) : ∃ y : UInt8, bits BinOp.xor IntKind.u8 (x.toNat : Int) ((2 : Int) ^ m % 256) = (y.toNat : Int) ∧ y ≠ x := by
  have hx := x.toNat_lt
  have hp : 2 ^ m < 256 := Nat.lt_of_lt_of_le (Nat.pow_lt_pow_right (by omega) hm) (by decide)
  have hp0 : 0 < 2 ^ m := Nat.pow_pos (by omega)
  have h := u8_xor_nat x.toNat (2 ^ m) (by omega) hp
  have hl : x.toNat ^^^ 2 ^ m < 256 := Nat.xor_lt_two_pow (n := 8) (by omega) hp
  refine ⟨UInt8.ofNat (x.toNat ^^^ 2 ^ m), ?_, fun e => ?_⟩
  · rw [show ((2 : Int) ^ m % 256) = ((2 ^ m : Nat) : Int) from ?_, h, UInt8.toNat_ofNat', Nat.mod_eq_of_lt hl]
    rw [show ((2 : Int) ^ m) = ((2 ^ m : Nat) : Int) by simp]
    omega
  · have h1 := congrArg UInt8.toNat e
    rw [UInt8.toNat_ofNat', Nat.mod_eq_of_lt hl] at h1
    have h2 : x.toNat ^^^ 2 ^ m = x.toNat ^^^ 0 := by rw [h1, Nat.xor_zero]
    have := xor_cancel_l h2
    omega

set_option maxRecDepth 100000 in
set_option maxHeartbeats 4000000 in
theorem walkCodecBits (A : Option Addr) (c : Nat) (d : List UInt8) (bit : Int) (w : World) (h : RB w A d) (hl : d.length ≤ 140737488351232) (hbit : 0 ≤ bit ∧ bit ≤ 4294967295) :
    Calls Try.prog 8 #[.slice A d.length c, .int .u32 bit] w (Yes w) := by
  have OWN := Lib.hid (fun w' (hb : Below w.heap.size w w') => ownB A c d w' (h.below hb) (by omega))
  obtain ⟨bit, rfl⟩ := Int.eq_ofNat_of_zero_le hbit.1
  have hb1 := hbit.2
  clear h hbit
  by_cases hbig : 65536 < d.length
  · have hbig' : (65536 : Int) < (d.length : Int) := by omega
    go_enter Try.func8, Try.ntmps8
    go_wp2_with fail
    refine (codecAnswers _).mono ?_
    rintro e w1 ⟨rfl, hb1⟩
    go_wp2_with fail
    refine (codecAnswers _).mono ?_
    rintro e w2 ⟨rfl, hb2⟩
    have HB := Lib.hid (hb1.trans (hb2.mono hb1.size))
    clear hb1 hb2
    go_wp2_with fail
    go_ret
    exact ⟨rfl, HB.out⟩
  · have hbig' : ¬ (65536 : Int) < (d.length : Int) := by omega
    go_enter Try.func8, Try.ntmps8
    go_wp2_with fail
    refine (codecAnswers _).mono ?_
    rintro e w1 ⟨rfl, B1⟩
    go_wp2_with fail
    refine (OWN.out _ B1).mono ?_
    rintro e w2 ⟨k2, A2, c2, hk2, hk21, hk22, rfl, ho2, hb2⟩
    have B2 := B1.trans (hb2.mono B1.size)
    have C := Lib.hid (codecFrame A2 c2 k2 w2 ho2.rb (by omega))
    clear ho2 hb2 B1
    go_wp2_with fail
    refine C.out.mono ?_
    rintro e w3 ⟨f, A3, c3, hf, hf1, hf2, rfl, ho3, hb3⟩
    have hff : f = frameB d := by rw [hf.out, hk2.out]
    have hfl : f.length = 8 + d.length := by rw [hff, frameB_len]
    have hfl1 : f.length ≤ 8 + d.length := by omega
    have hfl2 : 8 + d.length ≤ f.length := by omega
    have B3 := B2.trans (hb3.mono B2.size)
    have HFF := Lib.hid hff
    have ho3' := ho3.base_le B2.size
    have hm1 : bit % ((f.length - 4) * 8) < (f.length - 4) * 8 := Nat.mod_lt _ (by omega)
    obtain ⟨k, hk⟩ : ∃ k, k = bit % ((f.length - 4) * 8) := ⟨_, rfl⟩
    have hki : ((bit : Int) % (((f.length : Int) - 4) * 8)) = (k : Int) := by
      rw [hk]
      rw [show ((f.length : Int) - 4) * 8 = (((f.length - 4) * 8 : Nat) : Int) by omega]
      exact (Int.natCast_emod _ _).symm
    rw [← hk] at hm1
    clear C hf hf1 hf2 hb3 B2 hfl hff hk2 ho3 hk hk21 hk22
    have hp : 4 + k / 8 < f.length := by omega
    obtain ⟨g, rfl, hg1, hg2, hcell, hfree, hset⟩ := ho3'.store hp
    have hcap := ho3'.cap
    have HSET := Lib.hid hset
    clear hset
    go_wp2_with fail
    obtain ⟨y, hV, hy⟩ := flip_byte f[4 + k / 8] (k % 8) (Nat.mod_lt _ (by omega))
    obtain ⟨ho4, hg4⟩ := HSET.out y _ hV
    have hq : 4 + k / 8 < 8 + d.length := by omega
    have hun := unfr_bad d (by omega) (k / 8) hq y f (by rw [HFF.out, frame_four]) (by omega) (fun _ => hy)
    have C := codecUnframe _ c3 (f.set (4 + k / 8) y) 0 _ ho4.rb (by rw [List.length_set]; exact hcap.1) hcap.2 (by rw [List.length_set]; omega) (by omega)
    rw [hun, List.length_set] at C
    have B4 := B3.grown hg4 B3.size (fun q hq => by injection hq with hq; omega)
    have HB4 := Lib.hid B4
    have HC := Lib.hid C
    clear C hun B4 B3 ho4 hg4 hcell hfree hki ho3' hV
    refine HC.out.mono ?_
    rintro e w5 ⟨k5, A5, c5, hk5, hk51, rfl, hr5, hb5⟩
    obtain rfl : k5 = [] := hk5.out
    have HB := Lib.hid (HB4.out.trans (hb5.mono HB4.out.size))
    clear hk5 hk51 hr5 hb5
    go_wp2_with fail
    go_ret
    exact ⟨rfl, HB.out⟩
end Go.Proofs.Ytekkcbonkjdgeaa
