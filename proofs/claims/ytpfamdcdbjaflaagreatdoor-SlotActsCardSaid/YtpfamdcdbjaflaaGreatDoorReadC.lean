/- Contracts of codec.Bytes and of its reference. -/
import Derived.Test.YtpfamdcdbjaflaaGreatDoorReadB
namespace Go.Proofs.YtpfamdcdbjaflaaGreatDoor
open Go.RowKit

theorem RB.partR {w : World} {bb off : Nat} {b : List UInt8} (h : RB w (some ⟨bb, off, none⟩) b) (f n : Nat) : RB w (some ⟨bb, off + f, none⟩) ((b.drop f).take n) := by
  refine ⟨fun hn => ?_⟩
  have hf : f < b.length := by
    simp at hn; omega
  obtain ⟨b', off', e, hb, hc⟩ := h.at_ (by omega)
  injection e with e
  injection e with e1 e2
  subst e1 e2
  refine ⟨bb, off + f, rfl, hb, fun j x hx => ?_⟩
  have := hc (f + j) x (by
    rw [List.getElem?_take] at hx
    split at hx
    · rw [List.getElem?_drop] at hx; exact hx
    · cases hx)
  rw [Nat.add_assoc]
  exact this
theorem cloneR' (A : Option Addr) (c n : Nat) (l : List UInt8) (hn : l.length = n) (w : World) (h : RB w A l) (hl : n ≤ 210000000000000) :
    Calls Tryz.prog 28 #[.slice A n c] w (NewB w l) := by
  subst hn; exact cloneB A c l w h (by omega)

/-- What Bytes and Unframe end in. -/
def DatE (L : Nat) (p : List UInt8 × Int × Int) (w : World) (e : Ending) (w' : World) : Prop :=
  ∃ (k : List UInt8) (A : Option Addr) (c : Nat), Hid (k = p.1) ∧ k.length ≤ L ∧ e = .returned (.tuple #[.slice A k.length c, .int .i64 p.2.1, .int .i64 p.2.2]) ∧ RB w' A k ∧ Below w.heap.size w w'
theorem datE_no {L : Nat} {p : List UInt8 × Int × Int} {er : Int} {w w' : World} (h : p = ([], 0, er)) (hb : Below w.heap.size w w') : DatE L p w (.returned (.tuple #[.slice none 0 0, .int .i64 0, .int .i64 er])) w' := by
  subst h; exact ⟨[], none, 0, Lib.hid rfl, Nat.zero_le _, rfl, RB.nil, hb⟩
theorem datE_yes {L : Nat} {p : List UInt8 × Int × Int} {k : List UInt8} {A : Option Addr} {c : Nat} {x y : Int} {w w' : World} (h : p = (k, x, y)) (hl : k.length ≤ L) (hr : RB w' A k) (hb : Below w.heap.size w w') : DatE L p w (.returned (.tuple #[.slice A k.length c, .int .i64 x, .int .i64 y])) w' := by
  subst h; exact ⟨k, A, c, Lib.hid rfl, hl, rfl, hr, hb⟩

theorem bytesAt_err {b : List UInt8} {i : Int} (h : (numAt b i).2.2 ≠ 0) : bytesAt b i = ([], 0, (numAt b i).2.2) := by rw [bytesAt, if_neg h]
theorem bytesAt_short {b : List UInt8} {i : Int} (h : (numAt b i).2.2 = 0) (hs : (b.length : Int) < (numAt b i).2.1 + (numAt b i).1) : bytesAt b i = ([], 0, 5) := by rw [bytesAt, if_pos h, if_neg (by omega)]
theorem bytesAt_yes {b : List UInt8} {i : Int} (h : (numAt b i).2.2 = 0) (hs : ¬ (b.length : Int) < (numAt b i).2.1 + (numAt b i).1) : bytesAt b i = ((b.drop (numAt b i).2.1.toNat).take (numAt b i).1.toNat, (numAt b i).2.1 + (numAt b i).1, 0) := by rw [bytesAt, if_pos h, if_pos (by omega)]

end Go.Proofs.YtpfamdcdbjaflaaGreatDoor
