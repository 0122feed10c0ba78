/- The walk of the law CodecParts. -/
import Derived.Test.YtekkcbonkjdgeaaPutBytes
import Derived.Test.YtekkcbonkjdgeaaText
import Derived.Test.YtekkcbonkjdgeaaLift
import Derived.Test.YtekkcbonkjdgeaaArgs
import Derived.Test.YtekkcbonkjdgeaaPartsNum
import Derived.Deep.QuietTactic
import Derived.BigQuiet
namespace Go.Proofs.Ytekkcbonkjdgeaa
open Go.RowKit

theorem RB.take {w : World} {A : Option Addr} {l : List UInt8} (h : RB w A l) (m : Nat) : RB w A (l.take m) :=
  ⟨fun hn => by
    obtain ⟨b, off, e, hb, hc⟩ := h.at_ (by simp at hn; omega)
    refine ⟨b, off, e, hb, fun j x hx => hc j x ?_⟩
    rw [List.getElem?_take] at hx
    split at hx
    · exact hx
    · cases hx⟩

theorem putNums_len (l : List Int) (k : Nat) : (putNums (l.take k)).length ≤ 9 * k := by
  induction k with
  | zero => simp [putNums]
  | succ k ih =>
    by_cases h : k < l.length
    · rw [putNums_snoc l k h, List.length_append]
      have := putNum_len l[k].toNat
      omega
    · rw [List.take_of_length_le (by omega)]
      rw [List.take_of_length_le (by omega)] at ih
      omega

set_option maxRecDepth 100000 in
set_option maxHeartbeats 2000000 in
theorem walkCodecParts (A : Option Addr) (c : Nat) (a : List Int) (B : Option Addr) (d : Nat) (b : List Int) (w : World) (ha : RV w A (ncells .u64 a)) (hwa : ∀ z ∈ a, (Lit.int .u64 z).wf = true) (hal : a.length ≤ 1048576)
    (hb : RV w B (ncells .u64 b)) (hwb : ∀ z ∈ b, (Lit.int .u64 z).wf = true) (hbl : b.length ≤ 1048576) :
    Calls Try.prog 3 #[.slice A a.length c, .slice B b.length d] w (Yes w) := by
  have HA : Hid (U64s a) := Lib.hid fun z hz => u64_of_wf (hwa z hz)
  have HB : Hid (U64s b) := Lib.hid fun z hz => u64_of_wf (hwb z hz)
  clear hwa hwb
  go_enter Try.func3, Try.ntmps3
  go_wp2_with fail
  go_loopw [5, 8] (fun v i wr => ∃ (k : Nat) (q : List UInt8) (Q : Option Addr) (cq : Nat), k ≤ a.length ∧ i = .int .i64 (k : Int) ∧ v = .slice Q q.length cq ∧ q.length ≤ 9 * k ∧
      Hid (q = putNums (a.take k)) ∧ OB wr w.heap.size Q cq q ∧ Below w.heap.size w wr)
    (fun _ i _ => a.length - (intOf i).toNat)
  case atStart => exact ⟨0, [], none, 0, Nat.zero_le _, rfl, rfl, by simp, Lib.hid (by simp [putNums]), OB.nil _ _, Below.refl _ _⟩
  case round =>
    obtain ⟨k, q, Q, cq, hk, rfl, rfl, hq9, hq, hoq, hbw⟩ := hrel
    by_cases hlt : k < a.length
    · obtain ⟨bb, off, rfl, hbb, hc⟩ := (ha.below hbw).cell (j := k) (by rw [ncells_length]; exact hlt)
      rw [show (ncells .u64 a)[k]'(by rw [ncells_length]; exact hlt) = .int .u64 a[k] from by simp [ncells]] at hc
      obtain ⟨z0, z1⟩ := HA.out a[k] (List.getElem_mem hlt)
      obtain ⟨z, hz⟩ : ∃ z, z = a[k] := ⟨_, rfl⟩
      rw [← hz] at hc z0 z1
      have HZ := Lib.hid hz
      clear hz
      go_wp2_with fail
      refine (putNumB Q cq q z _ hoq.rb (by omega) z0 z1).mono ?_
      rintro e w2 ⟨k2, A2, c2, hk2, hk21, hk22, rfl, ho2, hb2⟩
      have hk2b : k2.length ≤ 9 * (k + 1) := by have := putNum_len z.toNat; rw [List.length_append] at hk21; omega
      have H2 : Hid (k2 = putNums (a.take (k + 1))) := Lib.hid (by rw [hk2.out, hq.out, putNums_snoc a k hlt, HZ.out])
      have hb2' : Below w.heap.size w w2 := hbw.trans (hb2.mono hbw.size)
      have ho2' := ho2.base_le hbw.size
      clear hk2 hk21 hk22 ho2 hb2 hbw hoq hq hc z0 z1 hq9
      go_wp2_with fail
      go_roundw
      case rel => exact ⟨k + 1, k2, A2, c2, by omega, by go_num, rfl, hk2b, H2, ho2', hb2'⟩
      case measure => simp [intOf]; omega
    · obtain rfl : k = a.length := by omega
      rw [List.take_of_length_le (Nat.le_refl _)] at hq
      clear hlt hk
      obtain ⟨wo, rfl⟩ : ∃ wo : World, wo = wr := ⟨_, rfl⟩
      have hbo := hb.below hbw
      have hao := ha.below hbw
      have haB : (A : Option Addr) = A := rfl
      go_wp2_with fail
      go_loopw [6, 7, 9] (fun v s i wr => ∃ (k : Nat) (y : List UInt8) (Y : Option Addr) (cy : Nat) (sm : Bool), k ≤ b.length ∧ i = .int .i64 (k : Int) ∧ v = .slice Y y.length cy ∧ s = .bool sm ∧ y.length ≤ 9 * k ∧
          Hid (y = putNums (b.take k)) ∧ Hid (sm = sameB a b k) ∧ OB wr wo.heap.size Y cy y ∧ Below wo.heap.size wo wr)
        (fun _ _ i _ => b.length - (intOf i).toNat)
      case atStart => exact ⟨0, [], none, 0, true, Nat.zero_le _, rfl, rfl, rfl, by simp, Lib.hid (by simp [putNums]), Lib.hid (by rw [sameB_zero]), OB.nil _ _, Below.refl _ _⟩
      case round =>
        obtain ⟨k, y, Y, cy, sm, hk, rfl, rfl, rfl, hy9, hy, hsm, hoy, hbr⟩ := hrel
        by_cases hlt : k < b.length
        · obtain ⟨bb, off, rfl, hbb, hc⟩ := (hbo.below hbr).cell (j := k) (by rw [ncells_length]; exact hlt)
          rw [show (ncells .u64 b)[k]'(by rw [ncells_length]; exact hlt) = .int .u64 b[k] from by simp [ncells]] at hc
          obtain ⟨z0, z1⟩ := HB.out b[k] (List.getElem_mem hlt)
          obtain ⟨z, hz⟩ : ∃ z, z = b[k] := ⟨_, rfl⟩
          rw [← hz] at hc z0 z1
          have HZ := Lib.hid hz
          clear hz
          go_wp2_with fail
          refine (putNumB Y cy y z _ hoy.rb (by omega) z0 z1).mono ?_
          rintro e w2 ⟨k2, A2, c2, hk2, hk21, hk22, rfl, ho2, hb2⟩
          have hk2b : k2.length ≤ 9 * (k + 1) := by have := putNum_len z.toNat; rw [List.length_append] at hk21; omega
          have H2 : Hid (k2 = putNums (b.take (k + 1))) := Lib.hid (by rw [hk2.out, hy.out, putNums_snoc b k hlt, HZ.out])
          have hb2' : Below wo.heap.size wo w2 := hbr.trans (hb2.mono hbr.size)
          have ho2' := ho2.base_le hbr.size
          have hc2 : w2.cell? ⟨bb, off + k, none⟩ = some (.int .u64 z) := (hb2.cell (p := ⟨bb, _, none⟩) hbb).trans hc
          have hao2 := hao.below hb2'
          clear hk2 hk21 hk22 ho2 hb2 hbr hoy hy hc z0 z1 hy9
          go_wp2_with fail
          by_cases hs : sm = true
          · subst hs
            by_cases hka : a.length ≤ k
            · have hd : (a.length : Int) ≤ (k : Int) := by omega
              have hd' : decide ((a.length : Int) ≤ (k : Int)) = true := by simpa using hd
              have HS : Hid (true = sameB a b (k + 1)) := Lib.hid (by rw [sameB_succ, ← hsm.out]; simp [hka])
              clear hao2 hsm
              go_quiet (fail)
              go_wp2_with fail
              go_roundw
              case rel => exact ⟨k + 1, k2, A2, c2, true, by omega, by go_num, rfl, rfl, hk2b, H2, HS, ho2', below_drewN hb2' _⟩
              case measure => simp [intOf]; omega
            · have hd' : decide ((a.length : Int) ≤ (k : Int)) = false := by simp; omega
              have hd : (k : Int) < (a.length : Int) := by omega
              obtain ⟨ba, offa, rfl, hba, hca⟩ := hao2.cell (j := k) (by rw [ncells_length]; omega)
              rw [show (ncells .u64 a)[k]'(by rw [ncells_length]; omega) = .int .u64 (a[k]'(by omega)) from by simp [ncells]] at hca
              obtain ⟨za, hza⟩ : ∃ za, za = a[k]'(by omega) := ⟨_, rfl⟩
              rw [← hza] at hca
              have HZA := Lib.hid hza
              clear hza hao2
              by_cases hzz : za = z
              · have hz1 : (za == z) = true := by simpa using hzz
                have HS : Hid (true = sameB a b (k + 1)) := Lib.hid (by
                  rw [sameB_succ, ← hsm.out, List.getElem?_eq_getElem (by omega), List.getElem?_eq_getElem (by omega), ← HZA.out, ← HZ.out]; simp [hzz])
                clear hsm hzz
                go_quiet (fail)
                go_wp2_with fail
                go_roundw
                case rel => exact ⟨k + 1, k2, A2, c2, true, by omega, by go_num, rfl, rfl, hk2b, H2, HS, ho2', below_drewN hb2' _⟩
                case measure => simp [intOf]; omega
              · have hz1 : (za == z) = false := by simpa using hzz
                have HS : Hid (false = sameB a b (k + 1)) := Lib.hid (by
                  rw [sameB_succ, ← hsm.out, List.getElem?_eq_getElem (by omega), List.getElem?_eq_getElem (by omega), ← HZA.out, ← HZ.out]; simp [hzz, hka])
                clear hsm hzz
                go_quiet (fail)
                go_wp2_with fail
                go_roundw
                case rel => exact ⟨k + 1, k2, A2, c2, false, by omega, by go_num, rfl, rfl, hk2b, H2, HS, ho2', below_drewN hb2' _⟩
                case measure => simp [intOf]; omega
          · obtain rfl : sm = false := by simpa using hs
            have HS : Hid (false = sameB a b (k + 1)) := Lib.hid (by rw [sameB_succ, ← hsm.out]; simp)
            clear hao2 hsm hs
            go_quiet (fail)
            go_wp2_with fail
            go_roundw
            case rel => exact ⟨k + 1, k2, A2, c2, false, by omega, by go_num, rfl, rfl, hk2b, H2, HS, ho2', below_drewN hb2' _⟩
            case measure => simp [intOf]; omega
        · obtain rfl : k = b.length := by omega
          rw [List.take_of_length_le (Nat.le_refl _)] at hy
          clear hlt hk
          have hq' := (hoq.rb.below hbr)
          have hcv1 : ∀ n, (convert 23 9 (.slice Q q.length cq)).run Try.prog (wr.drewN n) = .ok (.string ⟨q.toArray⟩) (wr.drewN n) := fun n => convB cq (hq'.drewN n)
          have hlast := parts_last HA.out HB.out
          rw [← hq.out, ← hy.out, ← hsm.out] at hlast
          have HL := Lib.hid hlast
          clear hlast hsm
          go_wp2_with fail
          by_cases hle : q.length ≤ y.length
          · have hl1 : (q.length : Int) ≤ (y.length : Int) := by omega
            have hl2 : decide ((q.length : Int) ≤ (y.length : Int)) = true := by simpa using hl1
            have hmin : min (q.length : Int) (y.length : Int) = (q.length : Int) := by omega
            have hcy := hoy.cap
            have hy' := hoy.rb.take q.length
            have hcv2 : ∀ n, (convert 23 9 (.slice Y q.length cy)).run Try.prog (wr.drewN n) = .ok (.string ⟨(y.take q.length).toArray⟩) (wr.drewN n) := fun n => by
              have := convB cy (hy'.drewN n)
              rwa [List.length_take, Nat.min_eq_left hle] at this
            rcases hsmc : sm with _ | _ <;> by_cases hab : a.length ≤ b.length
            · have heq : (q == y.take q.length) = false := by have := HL.out; simpa [hle, hab, hsmc] using this
              have hd1 : (a.length : Int) ≤ (b.length : Int) := by omega
              subst hsmc
              clear hy'
              go_quiet (fail)
              go_wp2_with fail
              refine (codecAnswers _).mono ?_
              rintro e w9 ⟨rfl, hb9⟩
              go_wp2_with fail
              go_ret
              exact ⟨rfl, hbw.trans ((hbr.mono hbw.size).trans ((below_drewN (Below.refl _ _) _).trans (Below.mono hb9 (by have := hbr.size; have := hbw.size; simp; omega))))⟩

            · have heq : (q == y.take q.length) = false := by have := HL.out; simpa [hle, hab, hsmc] using this
              have hd1 : decide ((a.length : Int) ≤ (b.length : Int)) = false := by simp; omega
              subst hsmc
              clear hy'
              go_quiet (fail)
              go_wp2_with fail
              refine (codecAnswers _).mono ?_
              rintro e w9 ⟨rfl, hb9⟩
              go_wp2_with fail
              go_ret
              exact ⟨rfl, hbw.trans ((hbr.mono hbw.size).trans ((below_drewN (Below.refl _ _) _).trans (Below.mono hb9 (by have := hbr.size; have := hbw.size; simp; omega))))⟩

            · have heq : (q == y.take q.length) = true := by have := HL.out; simpa [hle, hab, hsmc] using this
              have hd1 : (a.length : Int) ≤ (b.length : Int) := by omega
              subst hsmc
              clear hy'
              go_quiet (fail)
              go_wp2_with fail
              refine (codecAnswers _).mono ?_
              rintro e w9 ⟨rfl, hb9⟩
              go_wp2_with fail
              go_ret
              exact ⟨rfl, hbw.trans ((hbr.mono hbw.size).trans ((below_drewN (Below.refl _ _) _).trans (Below.mono hb9 (by have := hbr.size; have := hbw.size; simp; omega))))⟩

            · have heq : (q == y.take q.length) = false := by have := HL.out; simpa [hle, hab, hsmc] using this
              have hd1 : decide ((a.length : Int) ≤ (b.length : Int)) = false := by simp; omega
              subst hsmc
              clear hy'
              go_quiet (fail)
              go_wp2_with fail
              refine (codecAnswers _).mono ?_
              rintro e w9 ⟨rfl, hb9⟩
              go_wp2_with fail
              go_ret
              exact ⟨rfl, hbw.trans ((hbr.mono hbw.size).trans ((below_drewN (Below.refl _ _) _).trans (Below.mono hb9 (by have := hbr.size; have := hbw.size; simp; omega))))⟩

          · have hl2 : decide ((q.length : Int) ≤ (y.length : Int)) = false := by simp; omega
            rcases hsmc : sm with _ | _ <;> by_cases hab : a.length ≤ b.length
            · have hd1 : (a.length : Int) ≤ (b.length : Int) := by omega
              subst hsmc
              go_quiet (fail)
              go_wp2_with fail
              refine (codecAnswers _).mono ?_
              rintro e w9 ⟨rfl, hb9⟩
              go_wp2_with fail
              go_ret
              exact ⟨rfl, hbw.trans ((hbr.mono hbw.size).trans ((below_drewN (Below.refl _ _) _).trans (Below.mono hb9 (by have := hbr.size; have := hbw.size; simp; omega))))⟩

            · have hd1 : decide ((a.length : Int) ≤ (b.length : Int)) = false := by simp; omega
              subst hsmc
              go_quiet (fail)
              go_wp2_with fail
              refine (codecAnswers _).mono ?_
              rintro e w9 ⟨rfl, hb9⟩
              go_wp2_with fail
              go_ret
              exact ⟨rfl, hbw.trans ((hbr.mono hbw.size).trans ((below_drewN (Below.refl _ _) _).trans (Below.mono hb9 (by have := hbr.size; have := hbw.size; simp; omega))))⟩

            · have := HL.out
              simp [hle, hab, hsmc] at this
            · have hd1 : decide ((a.length : Int) ≤ (b.length : Int)) = false := by simp; omega
              subst hsmc
              go_quiet (fail)
              go_wp2_with fail
              refine (codecAnswers _).mono ?_
              rintro e w9 ⟨rfl, hb9⟩
              go_wp2_with fail
              go_ret
              exact ⟨rfl, hbw.trans ((hbr.mono hbw.size).trans ((below_drewN (Below.refl _ _) _).trans (Below.mono hb9 (by have := hbr.size; have := hbw.size; simp; omega))))⟩

end Go.Proofs.Ytekkcbonkjdgeaa
