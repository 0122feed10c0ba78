/- Contracts of the reference's writer: dec, signed, hex. -/
import Derived.Test.YtcinohmhhglpjaaDoorScrNum
import Derived.Test.YtcinohmhhglpjaaDoorVals
import Derived.Test.YtcinohmhhglpjaaDoorPlanE
import Derived.IntWalk
import Derived.Deep.QuietTactic
import Derived.BigQuiet
namespace Go.Proofs.YtcinohmhhglpjaaDoor
open Go.RowKit
open Go.Lib (decDigits)

theorem dec_base {u : Nat} (h : u < 10) : decDigits u = [UInt8.ofNat (48 + u % 10)] := by
  rw [decDigits, dif_pos h]
  congr 2
  omega
theorem dec_len {u : Nat} (h : u < 18446744073709551616) : (decDigits u).length ≤ 20 := by
  rw [Lib.decDigits_length]; exact nDigits_le h

set_option maxRecDepth 20000 in
/-- 'string([]byte{x})'. -/
theorem convOne (W : World) (x : UInt8) {V : Int} (h : V = (x.toNat : Int)) : (convert 60 9 (.slice (some ⟨W.heap.size, 0, none⟩) 1 1)).run Tryd.prog (W.alloc (.cells #[.int .u8 V] 5)) = .ok (.string ⟨[x].toArray⟩) (W.alloc (.cells #[.int .u8 V] 5)) := by
  have e := convB (A := some ⟨W.heap.size, 0, none⟩) (l := [x]) 1 (RB.one W x h)
  exact e
theorem digV (m : Nat) : (48 + (m : Int) % 10 : Int) = ((UInt8.ofNat (48 + m % 10)).toNat : Int) := by
  rw [UInt8.toNat_ofNat']
  omega

set_option maxRecDepth 20000 in
set_option maxHeartbeats 4000000 in
theorem refDec (n : Nat) (hn : n < 18446744073709551616) (w : World) :
    Calls Tryd.prog 35 #[.int .u64 (n : Int)] w fun e w' => e = .returned (.string ⟨(decDigits n).toArray⟩) ∧ Below w.heap.size w w' := by
  have hlen := dec_len hn
  have hcv := convOne w _ (digV n)
  have HI : Hid ((n < 10 → decDigits n = [UInt8.ofNat (48 + n % 10)]) ∧ (10 ≤ n → decDigits n = decDigits (n / 10) ++ [UInt8.ofNat (48 + n % 10)])) := Lib.hid ⟨fun h => dec_base h, fun h => dec_step (by omega)⟩
  generalize UInt8.ofNat (48 + n % 10) = d0 at *
  go_enter Tryd.func35, Tryd.ntmps35
  go_wp2_with fail
  go_loopw [0, 3] (fun s0 s3 wr => ∃ (m : Nat) (t : List UInt8), s0 = .int .u64 (m : Int) ∧ s3 = .string ⟨t.toArray⟩ ∧ m < 18446744073709551616 ∧ t.length ≤ 20 ∧ Hid ((m < 10 → decDigits n = t) ∧ (10 ≤ m → decDigits n = decDigits (m / 10) ++ t)) ∧ Hid (Below w.heap.size w wr)) (fun s0 _ _ => (intOf s0).toNat)
  case atStart => exact ⟨n, [d0], rfl, rfl, hn, by simp, HI, Lib.hid ((Below.refl _ _).alloc (Nat.le_refl _) _)⟩
  case round =>
    obtain ⟨m, t, rfl, rfl, hm, ht, hv, HB⟩ := hrel
    clear hcv HI
    by_cases hlt : m < 10
    · go_wp2_with fail
      go_ret
      exact ⟨by rw [hv.out.1 hlt]; rfl, HB.out⟩
    · have hcv := convOne wr (V := 48 + (m : Int) / 10 % 10) (UInt8.ofNat (48 + m / 10 % 10)) (by have := digV (m / 10); rw [← this]; omega)
      have HN : Hid ((m / 10 < 10 → decDigits n = UInt8.ofNat (48 + m / 10 % 10) :: t) ∧ (10 ≤ m / 10 → decDigits n = decDigits (m / 10 / 10) ++ UInt8.ofNat (48 + m / 10 % 10) :: t)) := Lib.hid ⟨fun h => by
        rw [hv.out.2 (by omega), dec_base h]; rfl, fun h => by
        rw [hv.out.2 (by omega), dec_step (by omega)]; simp⟩
      have hl2 : t.length + 1 ≤ 20 := by
        have e := congrArg List.length (hv.out.2 (by omega))
        rw [List.length_append] at e
        have := Lib.nDigits_pos (m / 10)
        rw [← Lib.decDigits_length] at this
        omega
      generalize UInt8.ofNat (48 + m / 10 % 10) = d at *
      have hcat := concatB [d] t (by simp; omega) (wr.alloc (.cells #[.int .u8 (48 + (m : Int) / 10 % 10)] 5))
      simp only [List.cons_append, List.nil_append] at hcat
      go_wp2_with fail
      go_roundw
      case rel => exact ⟨m / 10, d :: t, by go_num, rfl, by omega, by simp; omega, HN, Lib.hid (HB.out.alloc HB.out.size _)⟩
      case measure => simp [intOf]; omega
end Go.Proofs.YtcinohmhhglpjaaDoor
