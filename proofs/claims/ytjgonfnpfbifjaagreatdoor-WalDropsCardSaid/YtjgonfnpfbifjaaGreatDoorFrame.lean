/- Contracts of four, Frame and the reference's. -/
import Derived.Test.YtjgonfnpfbifjaaGreatDoorCrc
namespace Go.Proofs.YtjgonfnpfbifjaaGreatDoor
open Go.RowKit

/-- A number in four bytes. -/
def fourB (n : Nat) : List UInt8 := [UInt8.ofNat (n / 16777216), UInt8.ofNat (n / 65536 % 256), UInt8.ofNat (n / 256 % 256), UInt8.ofNat (n % 256)]
/-- Data in a frame. -/
def frameB (d : List UInt8) : List UInt8 := fourB d.length ++ fourB (crc (fourB d.length ++ d)) ++ d
theorem fourB_len (n : Nat) : (fourB n).length = 4 := rfl
theorem u8_ofNat {n : Nat} (h : n < 256) : ((UInt8.ofNat n).toNat : Int) = (n : Int) := by
  rw [UInt8.toNat_ofNat']; omega

theorem OB.lit4 (w : World) {base : Nat} (hb : base ≤ w.heap.size) (x0 x1 x2 x3 : UInt8) {V0 V1 V2 V3 : Int} (h0 : V0 = (x0.toNat : Int)) (h1 : V1 = (x1.toNat : Int)) (h2 : V2 = (x2.toNat : Int)) (h3 : V3 = (x3.toNat : Int)) :
    OB (w.alloc (.cells #[.int .u8 V0, .int .u8 V1, .int .u8 V2, .int .u8 V3] 5)) base (some ⟨w.heap.size, 0, none⟩) 4 [x0, x1, x2, x3] := by
  subst h0; subst h1; subst h2; subst h3
  exact World.ownsRow_lit w (bcells [x0, x1, x2, x3]).toArray 4 hb (by unfold maxLen; omega) rfl

set_option maxHeartbeats 400000 in
theorem codecFour (n : Int) (w : World) (h0 : 0 ≤ n) (h1 : n ≤ 4294967295) :
    Calls Tryz.prog 56 #[.int .u32 n] w (NewB w (fourB n.toNat)) := by
  obtain ⟨m, rfl⟩ := Int.eq_ofNat_of_zero_le h0
  go_enter Tryz.func56, Tryz.ntmps56
  go_wp2_with fail
  go_ret
  refine newB (k := [UInt8.ofNat (m / 16777216), UInt8.ofNat (m / 65536 % 256), UInt8.ofNat (m / 256 % 256), UInt8.ofNat (m % 256)]) (by simp [fourB]) (OB.lit4 w (Nat.le_refl _) _ _ _ _ ?_ ?_ ?_ ?_) ((Below.refl _ _).alloc (Nat.le_refl _) _)
  all_goals (rw [u8_ofNat (by omega)]; omega)

/-- What a function that answers new bytes and an error ends in. -/
def NewBE (w : World) (l : List UInt8) (err : Int) (e : Ending) (w' : World) : Prop :=
  ∃ (k : List UInt8) (A : Option Addr) (c : Nat), Hid (k = l) ∧ k.length ≤ l.length ∧ l.length ≤ k.length ∧ e = .returned (.tuple #[.slice A k.length c, .int .i64 err]) ∧ OB w' w.heap.size A c k ∧ Below w.heap.size w w'
theorem newBE {w w' : World} {l k : List UInt8} {A : Option Addr} {c : Nat} {err : Int} (hk : k = l) (h : OB w' w.heap.size A c k) (hb : Below w.heap.size w w') : NewBE w l err (.returned (.tuple #[.slice A k.length c, .int .i64 err])) w' :=
  ⟨k, A, c, Lib.hid hk, by rw [hk]; exact Nat.le_refl _, by rw [hk]; exact Nat.le_refl _, rfl, h, hb⟩
theorem crc_le (l : List UInt8) : crc l ≤ 4294967295 := by unfold crc; omega
theorem frameB_len (d : List UInt8) : (frameB d).length = 8 + d.length := by simp [frameB, fourB]; omega

set_option maxHeartbeats 1000000 in
theorem codecFrame_large (A : Option Addr) (c : Nat) (d : List UInt8) (w : World) (hl : 65536 < d.length) (hm : d.length ≤ 9223372036854775807) :
    Calls Tryz.prog 30 #[.slice A d.length c] w fun e w' => e = .returned (.tuple #[.slice none 0 0, .int .i64 7]) ∧ w = w' := by
  have h1 : (65536 : Int) < (d.length : Int) := by omega
  go_enter Tryz.func30, Tryz.ntmps30
  go_wp2_with fail
  go_ret2
  exact ⟨rfl, rfl⟩

set_option maxHeartbeats 1000000 in
theorem codecFrame (A : Option Addr) (c : Nat) (d : List UInt8) (w : World) (h : RB w A d) (hl : d.length ≤ 65536) :
    Calls Tryz.prog 30 #[.slice A d.length c] w (NewBE w (frameB d) 0) := by
  have h1 : ¬ (65536 : Int) < (d.length : Int) := by omega
  go_enter Tryz.func30, Tryz.ntmps30
  go_wp2_with fail
  refine (codecFour d.length w (by omega) (by omega)).mono ?_
  rintro e w1 ⟨k1, A1, c1, hk1, hk11, hk12, rfl, ho1, hb1⟩
  have hk1l : k1.length = 4 := by rw [hk1.out]; rfl
  have hk1l1 : k1.length ≤ 4 := by omega
  have hk1l2 : 4 ≤ k1.length := by omega
  have E1 : Hid (k1 = fourB d.length) := Lib.hid (by rw [hk1.out, Int.toNat_natCast])
  clear hk1 hk11 hk12 hk1l
  go_wp2_with fail
  have C2 := codecSum (some ⟨w1.heap.size, 0, none⟩) 2 [(A1, c1, k1), (A, c, d)] _ (RBB.two_at _ c1 c rfl ho1.rb (h.below hb1) (by omega) (by omega)) (by simp)
  have hall : allB [(A1, c1, k1), (A, c, d)] = k1 ++ d := by simp [allB]
  rw [hall] at C2
  have hcr := crc_le (k1 ++ d)
  obtain ⟨s, hs⟩ : ∃ s, s = crc (k1 ++ d) := ⟨_, rfl⟩
  rw [← hs] at C2 hcr
  have HS := Lib.hid hs
  clear hs hall
  refine C2.mono ?_
  rintro e w2 ⟨rfl, hb2⟩
  clear C2
  have B2 : Below w.heap.size w w2 := (hb1.alloc hb1.size _).trans (hb2.mono (by have := hb1.size; simp; omega))
  have ho2 : OB w2 w.heap.size A1 c1 k1 := (ho1.alloc _).below hb2
  clear hb2 ho1 hb1
  go_wp2_with fail
  refine (codecFour s w2 (by omega) (by omega)).mono ?_
  rintro e w3 ⟨k3, A3, c3, hk3, hk31, hk32, rfl, ho3, hb3⟩
  have hk3l1 : k3.length ≤ 4 := by rw [hk3.out, fourB_len]; omega
  have E3 : Hid (k3 = fourB s) := Lib.hid (by rw [hk3.out, Int.toNat_natCast])
  have B3 : Below w.heap.size w w3 := B2.trans (hb3.mono B2.size)
  have ho2' := ho2.below hb3
  clear hk3 hk31 hk32 ho2 hb3
  go_wp2_with (first
    | (at_builtin; refine wp_appendB _ rfl (.tmp 12) (.tmp 17) rfl w.heap.size _ _ _ _ k1 k3 rfl rfl ho2' ho3.rb (by omega) B3.size ?_; intro k4 A4 c4 w4 hk4 hk41 hk42 ho4 hg4; have B4 : Below w.heap.size w w4 := B3.grown hg4 B3.size fun g hg => (ho2'.own_lt g hg).1; have hd4 := h.below B4)
    | (at_builtin; refine wp_appendB _ rfl (.tmp 19) (.tmp 20) rfl w.heap.size _ _ _ _ k4 d rfl rfl ho4 hd4 (by omega) B4.size ?_; intro k5 A5 c5 w5 hk5 hk51 hk52 ho5 hg5))
  go_ret2
  exact newBE (by rw [hk5.out, hk4.out, E3.out, HS.out, E1.out]; simp [frameB]) ho5 (B4.grown hg5 B4.size fun g hg => (ho4.own_lt g hg).1)

theorem refBits_last {l : List UInt8} {k s : Nat} {x : UInt8} (hlt : k < l.length) (hs : s = crcL 4294967295 (l.take k)) (hx : x = l[k]) : refBits 8 s x.toNat = crcL 4294967295 (l.take (k + 1)) := by
  rw [List.take_succ_eq_append_getElem hlt, crcL_snoc, ← hs, ← hx, byte_eq _ _ (by have := x.toNat_lt; omega)]

end Go.Proofs.YtjgonfnpfbifjaaGreatDoor
