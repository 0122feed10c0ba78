/- Contract of the law's same (printed by gen_wscrb.py). -/
import Derived.Test.YtcinohmhhglpjaaDoorWScrA
import Derived.BigQuiet
namespace Go.Proofs.YtcinohmhhglpjaaDoor
open Go.RowKit

set_option maxRecDepth 20000 in
set_option maxHeartbeats 4000000 in
theorem lawSame (A B : Option Addr) (c d : Nat) (xs : List Ap) (w : World) (hA : RS w A 13 (xs.map Ap.cells)) (hB : RS w B 13 (xs.map Ap.cells)) (hn : xs.length ≤ 140737488351232) :
    Calls Tryd.prog 21 #[.slice A xs.length c, .slice B xs.length d] w fun e w' => e = .returned (.bool true) ∧ Below w.heap.size w w' := by
  have HA := Lib.hid hA
  have HB := Lib.hid hB
  clear hA hB
  go_enter Tryd.func21, Tryd.ntmps21
  go_wp2_with fail
  go_loopw [5] (fun i wr => ∃ k : Nat, k ≤ xs.length ∧ i = .int .i64 (k : Int) ∧ Hid (Below w.heap.size w wr)) (fun i _ => xs.length - (intOf i).toNat)
  case atStart => exact ⟨0, Nat.zero_le _, rfl, Lib.hid (Below.refl _ _)⟩
  case round =>
    obtain ⟨k, hk, rfl, HW⟩ := hrel
    by_cases hlt : k < xs.length
    · obtain ⟨b, off, rfl, hbl, hc⟩ := acts_row (HA.out.below HW.out) hlt
      obtain ⟨b2, off2, rfl, hbl2, hc2⟩ := acts_row (HB.out.below HW.out) hlt
      have HEQ := Lib.hid (act_eq xs[k])
      generalize xs[k] = a at *
      obtain ⟨kind, ka, kb, kn, kdraw, kmask, ⟨ses, seq, op, key, amount, span, lease⟩⟩ := a
      unfold Ap.cells Cm.cells at HEQ
      simp only [List.cons_append, List.nil_append] at HEQ
      have d0 := hc 0 _ rfl; have f0 := hc2 0 _ rfl; have d1 := hc 1 _ rfl; have f1 := hc2 1 _ rfl; have d2 := hc 2 _ rfl; have f2 := hc2 2 _ rfl; have d3 := hc 3 _ rfl; have f3 := hc2 3 _ rfl; have d4 := hc 4 _ rfl; have f4 := hc2 4 _ rfl; have d5 := hc 5 _ rfl; have f5 := hc2 5 _ rfl; have d6 := hc 6 _ rfl; have f6 := hc2 6 _ rfl; have d7 := hc 7 _ rfl; have f7 := hc2 7 _ rfl; have d8 := hc 8 _ rfl; have f8 := hc2 8 _ rfl; have d9 := hc 9 _ rfl; have f9 := hc2 9 _ rfl; have d10 := hc 10 _ rfl; have f10 := hc2 10 _ rfl; have d11 := hc 11 _ rfl; have f11 := hc2 11 _ rfl; have d12 := hc 12 _ rfl; have f12 := hc2 12 _ rfl
      simp only [Nat.add_zero] at d0 f0
      have hki : (k : Int) < (xs.length : Int) := by omega
      have hki0 : (0 : Int) ≤ (k : Int) := by omega
      have hkd : decide ((k : Int) < (xs.length : Int)) = true := decide_eq_true hki
      have heq := HEQ.out
      clear hc hc2 HEQ
      go_wp2_with fail
      go_quiet (fail)
      go_wp2_with fail
      have HW2 : Hid (Below w.heap.size w (wr.drewN nq)) := Lib.hid (HW.out.trans ((⟨rfl, rfl, rfl, Nat.le_refl _, fun _ _ => rfl⟩ : Below wr.heap.size wr (wr.drewN nq)).mono HW.out.size))
      go_roundw
      case rel => exact ⟨k + 1, by omega, by go_num, HW2⟩
      case measure => simp [intOf]; omega
    · obtain rfl : k = xs.length := by omega
      go_wp2_with fail
      go_ret
      exact ⟨rfl, HW.out⟩
theorem set_eq (z0 z1 z2 z3 z4 z5 z6 z7 z8 z9 : Int) (w : World) : (Op.equalIn 10000 23 (.agg #[.int .i64 z0, .int .i64 z1, .int .i64 z2, .int .i64 z3, .int .i64 z4, .int .i64 z5, .int .i64 z6, .int .i64 z7, .int .i64 z8, .int .i64 z9]) (.agg #[.int .i64 z0, .int .i64 z1, .int .i64 z2, .int .i64 z3, .int .i64 z4, .int .i64 z5, .int .i64 z6, .int .i64 z7, .int .i64 z8, .int .i64 z9])).run Tryd.prog w = .ok true w := by
  have u1 := Tryd.underlying3
  have a1 := Tryd.isAgg3
  have z1' := Tryd.sizeOf3
  have u2 := Tryd.underlying2
  have a2 := Tryd.isAgg2
  have z2' := Tryd.sizeOf2
  have hS := Tryd.underlying23
  rw [show (10000 : Nat) = 9999 + 1 from rfl]
  unfold Op.equalIn
  simp only [Sem.run_bind, run_underlying hS, Result.andThen_ok]
  go_simp
end Go.Proofs.YtcinohmhhglpjaaDoor
