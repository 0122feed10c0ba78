/- ReadDD: put together by merge.py of: ReadC, ReadD. -/
import Derived.Test.YtjgonfnpfbifjaaGreatDoorReadB
import Derived.Test.YtjgonfnpfbifjaaGreatDoorFrame
import Derived.Test.YtjgonfnpfbifjaaGreatDoorPlan
import Derived.Deep.QuietTactic
import Derived.BigQuiet
/- Contracts of codec.Bytes and of its reference. -/
namespace Go.Proofs.YtjgonfnpfbifjaaGreatDoor
open Go.RowKit

theorem RB.partR {w : World} {bb off : Nat} {b : List UInt8} (h : RB w (some ⟨bb, off, none⟩) b) (f n : Nat) : RB w (some ⟨bb, off + f, none⟩) ((b.drop f).take n) := by
  refine ⟨fun hn => ?_⟩
  have hf : f < b.length := by
    simp at hn; omega
  obtain ⟨b', off', e, hb, hc⟩ := h.at_ (by omega)
  injection e with e
  injection e with e1 e2
  subst e1 e2
  refine ⟨bb, off + f, rfl, hb, fun j x hx => ?_⟩
  have := hc (f + j) x (by
    rw [List.getElem?_take] at hx
    split at hx
    · rw [List.getElem?_drop] at hx; exact hx
    · cases hx)
  rw [Nat.add_assoc]
  exact this
theorem cloneR' (A : Option Addr) (c n : Nat) (l : List UInt8) (hn : l.length = n) (w : World) (h : RB w A l) (hl : n ≤ 210000000000000) :
    Calls Tryz.prog 34 #[.slice A n c] w (NewB w l) := by
  subst hn; exact cloneB A c l w h (by omega)

/-- What Bytes and Unframe end in. -/
def DatE (L : Nat) (p : List UInt8 × Int × Int) (w : World) (e : Ending) (w' : World) : Prop :=
  ∃ (k : List UInt8) (A : Option Addr) (c : Nat), Hid (k = p.1) ∧ k.length ≤ L ∧ e = .returned (.tuple #[.slice A k.length c, .int .i64 p.2.1, .int .i64 p.2.2]) ∧ RB w' A k ∧ Below w.heap.size w w'
theorem datE_no {L : Nat} {p : List UInt8 × Int × Int} {er : Int} {w w' : World} (h : p = ([], 0, er)) (hb : Below w.heap.size w w') : DatE L p w (.returned (.tuple #[.slice none 0 0, .int .i64 0, .int .i64 er])) w' := by
  subst h; exact ⟨[], none, 0, Lib.hid rfl, Nat.zero_le _, rfl, RB.nil, hb⟩
theorem datE_yes {L : Nat} {p : List UInt8 × Int × Int} {k : List UInt8} {A : Option Addr} {c : Nat} {x y : Int} {w w' : World} (h : p = (k, x, y)) (hl : k.length ≤ L) (hr : RB w' A k) (hb : Below w.heap.size w w') : DatE L p w (.returned (.tuple #[.slice A k.length c, .int .i64 x, .int .i64 y])) w' := by
  subst h; exact ⟨k, A, c, Lib.hid rfl, hl, rfl, hr, hb⟩

theorem bytesAt_err {b : List UInt8} {i : Int} (h : (numAt b i).2.2 ≠ 0) : bytesAt b i = ([], 0, (numAt b i).2.2) := by rw [bytesAt, if_neg h]
theorem bytesAt_short {b : List UInt8} {i : Int} (h : (numAt b i).2.2 = 0) (hs : (b.length : Int) < (numAt b i).2.1 + (numAt b i).1) : bytesAt b i = ([], 0, 5) := by rw [bytesAt, if_pos h, if_neg (by omega)]
theorem bytesAt_yes {b : List UInt8} {i : Int} (h : (numAt b i).2.2 = 0) (hs : ¬ (b.length : Int) < (numAt b i).2.1 + (numAt b i).1) : bytesAt b i = ((b.drop (numAt b i).2.1.toNat).take (numAt b i).1.toNat, (numAt b i).2.1 + (numAt b i).1, 0) := by rw [bytesAt, if_pos h, if_pos (by omega)]

end Go.Proofs.YtjgonfnpfbifjaaGreatDoor
/- Contracts of codec.word, codec.Unframe. -/
namespace Go.Proofs.YtjgonfnpfbifjaaGreatDoor
open Go.RowKit

theorem or24 (x y : Nat) (hx : x < 256) (hy : y < 256) : bits BinOp.or IntKind.u32 ((x : Int) * 16777216) ((y : Int) * 65536) = (x : Int) * 16777216 + (y : Int) * 65536 := by
  have h := u32_or_nat (x * 16777216) (y * 65536) (by omega) (by omega)
  have e := Nat.shiftLeft_add_eq_or_of_lt (a := x) (b := y * 65536) (i := 24) (by omega)
  rw [Nat.shiftLeft_eq, show x * 2 ^ 24 = x * 16777216 from rfl] at e
  rw [← e] at h
  simpa using h
theorem or_low (m k b i : Nat) (hm : m = k * 2 ^ i) (hb : b < 2 ^ i) : m ||| b = m + b := by
  subst hm
  have := Nat.shiftLeft_add_eq_or_of_lt (a := k) (b := b) (i := i) hb
  rw [Nat.shiftLeft_eq] at this
  exact this.symm
theorem or16 (x y z : Nat) (hx : x < 256) (hy : y < 256) (hz : z < 256) : bits BinOp.or IntKind.u32 ((x : Int) * 16777216 + (y : Int) * 65536) ((z : Int) * 256) = (x : Int) * 16777216 + (y : Int) * 65536 + (z : Int) * 256 := by
  have h := u32_or_nat (x * 16777216 + y * 65536) (z * 256) (by omega) (by omega)
  rw [or_low (x * 16777216 + y * 65536) (x * 256 + y) (z * 256) 16 (by rw [show 2 ^ 16 = 65536 from rfl]; omega) (by rw [show 2 ^ 16 = 65536 from rfl]; omega)] at h
  simpa using h
theorem or8 (x y z v : Nat) (hx : x < 256) (hy : y < 256) (hz : z < 256) (hv : v < 256) : bits BinOp.or IntKind.u32 ((x : Int) * 16777216 + (y : Int) * 65536 + (z : Int) * 256) (v : Int) = (x : Int) * 16777216 + (y : Int) * 65536 + (z : Int) * 256 + (v : Int) := by
  have h := u32_or_nat (x * 16777216 + y * 65536 + z * 256) v (by omega) (by omega)
  rw [or_low (x * 16777216 + y * 65536 + z * 256) (x * 65536 + y * 256 + z) v 8 (by rw [show 2 ^ 8 = 256 from rfl]; omega) (by rw [show 2 ^ 8 = 256 from rfl]; omega)] at h
  simpa using h
theorem unB_four (a b c d : UInt8) : ((unB [a, b, c, d] : Nat) : Int) = (a.toNat : Int) * 16777216 + (b.toNat : Int) * 65536 + (c.toNat : Int) * 256 + (d.toNat : Int) := by
  have e : unB [a, b, c, d] = ((a.toNat * 256 + b.toNat) * 256 + c.toNat) * 256 + d.toNat := by simp [unB]
  rw [e]; omega

set_option maxRecDepth 20000 in
set_option maxHeartbeats 2000000 in
theorem codecWord (A : Option Addr) (n c : Nat) (l : List UInt8) (w : World) (h : RB w A l) (hl : l.length = 4) (hn : 4 ≤ n) (_hm : n ≤ 210000000000000) :
    Calls Tryz.prog 104 #[.slice A n c] w fun e w' => e = .returned (.int .u32 (unB l : Nat)) ∧ ∃ k, w' = w.drewN k := by
  match l, hl with
  | [x0, x1, x2, x3], _ =>
    obtain ⟨bb, off, rfl, hbb, hc⟩ := h.at_ (by simp)
    have c0 := hc 0 x0 rfl
    have c1 := hc 1 x1 rfl
    have c2 := hc 2 x2 rfl
    have c3 := hc 3 x3 rfl
    rw [Nat.add_zero] at c0
    have HU := Lib.hid (unB_four x0 x1 x2 x3)
    have l0 := x0.toNat_lt
    have l1 := x1.toNat_lt
    have l2 := x2.toNat_lt
    have l3 := x3.toNat_lt
    clear hc h
    have e24 := or24 x0.toNat x1.toNat (by omega) (by omega)
    have e16 := or16 x0.toNat x1.toNat x2.toNat (by omega) (by omega) (by omega)
    have e8 := or8 x0.toNat x1.toNat x2.toNat x3.toNat (by omega) (by omega) (by omega) (by omega)
    generalize x0.toNat = a at *
    generalize x1.toNat = b at *
    generalize x2.toNat = d at *
    generalize x3.toNat = f at *
    have g0 : (0 : Int) < (n : Int) := by omega
    have g1 : (1 : Int) < (n : Int) := by omega
    have g2 : (2 : Int) < (n : Int) := by omega
    have g3 : (3 : Int) < (n : Int) := by omega
    go_enter Tryz.func104, Tryz.ntmps104
    go_wp2_with fail
    go_quiet (fail)
    go_wp2_with fail
    go_ret
    exact ⟨ret_intB HU.out.symm, _, rfl⟩
end Go.Proofs.YtjgonfnpfbifjaaGreatDoor
