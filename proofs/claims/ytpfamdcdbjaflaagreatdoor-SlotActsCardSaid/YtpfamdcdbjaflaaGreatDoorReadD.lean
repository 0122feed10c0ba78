/- Contracts of codec.word, codec.Unframe. -/
import Derived.Test.YtpfamdcdbjaflaaGreatDoorReadC
import Derived.Test.YtpfamdcdbjaflaaGreatDoorFrame
import Derived.Test.YtpfamdcdbjaflaaGreatDoorPlan
import Derived.Deep.QuietTactic
import Derived.BigQuiet
namespace Go.Proofs.YtpfamdcdbjaflaaGreatDoor
open Go.RowKit

theorem or24 (x y : Nat) (hx : x < 256) (hy : y < 256) : bits BinOp.or IntKind.u32 ((x : Int) * 16777216) ((y : Int) * 65536) = (x : Int) * 16777216 + (y : Int) * 65536 := by
  have h := u32_or_nat (x * 16777216) (y * 65536) (by omega) (by omega)
  have e := Nat.shiftLeft_add_eq_or_of_lt (a := x) (b := y * 65536) (i := 24) (by omega)
  rw [Nat.shiftLeft_eq, show x * 2 ^ 24 = x * 16777216 from rfl] at e
  rw [← e] at h
  simpa using h
theorem or_low (m k b i : Nat) (hm : m = k * 2 ^ i) (hb : b < 2 ^ i) : m ||| b = m + b := by
  subst hm
  have := Nat.shiftLeft_add_eq_or_of_lt (a := k) (b := b) (i := i) hb
  rw [Nat.shiftLeft_eq] at this
  exact this.symm
theorem or16 (x y z : Nat) (hx : x < 256) (hy : y < 256) (hz : z < 256) : bits BinOp.or IntKind.u32 ((x : Int) * 16777216 + (y : Int) * 65536) ((z : Int) * 256) = (x : Int) * 16777216 + (y : Int) * 65536 + (z : Int) * 256 := by
  have h := u32_or_nat (x * 16777216 + y * 65536) (z * 256) (by omega) (by omega)
  rw [or_low (x * 16777216 + y * 65536) (x * 256 + y) (z * 256) 16 (by rw [show 2 ^ 16 = 65536 from rfl]; omega) (by rw [show 2 ^ 16 = 65536 from rfl]; omega)] at h
  simpa using h
theorem or8 (x y z v : Nat) (hx : x < 256) (hy : y < 256) (hz : z < 256) (hv : v < 256) : bits BinOp.or IntKind.u32 ((x : Int) * 16777216 + (y : Int) * 65536 + (z : Int) * 256) (v : Int) = (x : Int) * 16777216 + (y : Int) * 65536 + (z : Int) * 256 + (v : Int) := by
  have h := u32_or_nat (x * 16777216 + y * 65536 + z * 256) v (by omega) (by omega)
  rw [or_low (x * 16777216 + y * 65536 + z * 256) (x * 65536 + y * 256 + z) v 8 (by rw [show 2 ^ 8 = 256 from rfl]; omega) (by rw [show 2 ^ 8 = 256 from rfl]; omega)] at h
  simpa using h
theorem unB_four (a b c d : UInt8) : ((unB [a, b, c, d] : Nat) : Int) = (a.toNat : Int) * 16777216 + (b.toNat : Int) * 65536 + (c.toNat : Int) * 256 + (d.toNat : Int) := by
  have e : unB [a, b, c, d] = ((a.toNat * 256 + b.toNat) * 256 + c.toNat) * 256 + d.toNat := by simp [unB]
  rw [e]; omega

set_option maxRecDepth 20000 in
set_option maxHeartbeats 2000000 in
theorem codecWord (A : Option Addr) (n c : Nat) (l : List UInt8) (w : World) (h : RB w A l) (hl : l.length = 4) (hn : 4 ≤ n) (_hm : n ≤ 210000000000000) :
    Calls Tryz.prog 52 #[.slice A n c] w fun e w' => e = .returned (.int .u32 (unB l : Nat)) ∧ ∃ k, w' = w.drewN k := by
  match l, hl with
  | [x0, x1, x2, x3], _ =>
    obtain ⟨bb, off, rfl, hbb, hc⟩ := h.at_ (by simp)
    have c0 := hc 0 x0 rfl
    have c1 := hc 1 x1 rfl
    have c2 := hc 2 x2 rfl
    have c3 := hc 3 x3 rfl
    rw [Nat.add_zero] at c0
    have HU := Lib.hid (unB_four x0 x1 x2 x3)
    have l0 := x0.toNat_lt
    have l1 := x1.toNat_lt
    have l2 := x2.toNat_lt
    have l3 := x3.toNat_lt
    clear hc h
    have e24 := or24 x0.toNat x1.toNat (by omega) (by omega)
    have e16 := or16 x0.toNat x1.toNat x2.toNat (by omega) (by omega) (by omega)
    have e8 := or8 x0.toNat x1.toNat x2.toNat x3.toNat (by omega) (by omega) (by omega) (by omega)
    generalize x0.toNat = a at *
    generalize x1.toNat = b at *
    generalize x2.toNat = d at *
    generalize x3.toNat = f at *
    have g0 : (0 : Int) < (n : Int) := by omega
    have g1 : (1 : Int) < (n : Int) := by omega
    have g2 : (2 : Int) < (n : Int) := by omega
    have g3 : (3 : Int) < (n : Int) := by omega
    go_enter Tryz.func52, Tryz.ntmps52
    go_wp2_with fail
    go_quiet (fail)
    go_wp2_with fail
    go_ret
    exact ⟨ret_intB HU.out.symm, _, rfl⟩
end Go.Proofs.YtpfamdcdbjaflaaGreatDoor
