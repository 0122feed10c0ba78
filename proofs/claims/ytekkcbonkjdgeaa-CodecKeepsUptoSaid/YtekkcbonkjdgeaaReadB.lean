/- Contract of the reference's Num. -/
import Derived.Test.YtekkcbonkjdgeaaReadA
namespace Go.Proofs.Ytekkcbonkjdgeaa
open Go.RowKit

set_option maxRecDepth 20000 in
set_option maxHeartbeats 2000000 in
theorem refNum (A : Option Addr) (c : Nat) (b : List UInt8) (i : Int) (w : World) (h : RB w A b) (hl : b.length ≤ 210000000000000) (hi : -9223372036854775808 ≤ i ∧ i ≤ 9223372036854775807) :
    Calls Try.prog 39 #[.slice A b.length c, .int .i64 i] w (NumE b i w) := by
  obtain ⟨hi0, hi1⟩ := hi
  by_cases hneg : i < 0
  · have HN := Lib.hid (numAt_out (b := b) (.inl hneg))
    go_enter Try.func39, Try.ntmps39
    go_wp2_with fail
    go_ret3
    exact numE HN.out
  · obtain ⟨a, rfl⟩ := Int.eq_ofNat_of_zero_le (show 0 ≤ i by omega)
    by_cases hout : b.length < a
    · have HN := Lib.hid (numAt_out (b := b) (i := (a : Int)) (by omega))
      go_enter Try.func39, Try.ntmps39
      go_wp2_with fail
      go_ret3
      exact numE HN.out
    · by_cases hend : a = b.length
      · subst hend
        have HN := Lib.hid (numAt_end (b := b))
        go_enter Try.func39, Try.ntmps39
        go_wp2_with fail
        go_ret3
        exact numE HN.out
      · have ha : a < b.length := by omega
        have hnd : ((a : Int) == (b.length : Int)) = false := by rw [beq_eq_false_iff_ne]; omega
        obtain ⟨bb, off, rfl, hbb, hx⟩ := h.cell ha
        have hxl := b[a].toNat_lt
        have hall : ∀ j, a + j < b.length → ∃ h : a + j < b.length, w.cell? ⟨bb, off + (a + j), none⟩ = some (.int .u8 (b[a + j].toNat : Int)) := fun j hj => ⟨hj, by
          obtain ⟨b', off', e, _, hy⟩ := h.cell hj
          injection e with e
          injection e with e1 e2
          subst e1 e2
          exact hy⟩
        by_cases hx8 : 8 < b[a].toNat
        · have HN := Lib.hid (numAt_text ha (.inl hx8))
          clear hall
          generalize b[a].toNat = x at *
          go_enter Try.func39, Try.ntmps39
          go_wp2_with fail
          go_ret3
          exact numE HN.out
        · by_cases hz : 0 < b[a].toNat ∧ ∃ h2 : a + 1 < b.length, b[a + 1].toNat = 0
          · have HN := Lib.hid (numAt_text ha (.inr hz))
            obtain ⟨hx0, h2, hz0⟩ := hz
            obtain ⟨_, hy⟩ := hall 1 h2
            rw [hz0] at hy
            clear hall hz0
            generalize b[a].toNat = x at *
            go_enter Try.func39, Try.ntmps39
            go_wp2_with fail
            go_ret3
            exact numE HN.out
          · have hz' : ∀ h2 : a + 1 < b.length, b[a].toNat = 0 ∨ b[a + 1].toNat ≠ 0 := fun h2 => by
              by_cases h0 : b[a].toNat = 0
              · exact .inl h0
              · exact .inr fun h3 => hz ⟨by omega, h2, h3⟩
            by_cases hs : b.length ≤ a + b[a].toNat
            · have HN := Lib.hid (numAt_short ha (by omega) hz' hs)
              have hx0 : 0 < b[a].toNat := by omega
              by_cases h2 : a + 1 < b.length
              · obtain ⟨_, hy⟩ := hall 1 h2
                have hy0 : ((b[a + 1].toNat : Int) == 0) = false := by
                  rw [beq_eq_false_iff_ne]; rcases hz' h2 with h | h <;> omega
                clear hall hz hz'
                generalize b[a + 1].toNat = y at *
                generalize b[a].toNat = x at *
                go_enter Try.func39, Try.ntmps39
                go_wp2_with fail
                go_ret3
                exact numE HN.out
              · clear hall hz hz'
                generalize b[a].toNat = x at *
                go_enter Try.func39, Try.ntmps39
                go_wp2_with fail
                go_ret3
                exact numE HN.out
            · have HN := Lib.hid (numAt_yes ha (by omega) hz' (by omega))
              have HC : Hid (∀ j, j < b[a].toNat → ∃ h : a + (j + 1) < b.length, w.cell? ⟨bb, off + (a + (j + 1)), none⟩ = some (.int .u8 (b[a + (j + 1)].toNat : Int))) := Lib.hid fun j hj => hall (j + 1) (by omega)
              have HB : Hid (a + b[a].toNat < b.length) := Lib.hid (by omega)
              by_cases h0 : b[a].toNat = 0
              · clear hall hz hz'
                generalize b[a].toNat = x at *
                subst h0
                go_enter Try.func39, Try.ntmps39
                go_wp2_with fail
                go_loop [8, 9] (fun v i => v = .int .u64 0 ∧ i = .int .i64 1) (fun _ _ => 0)
                case atStart => exact ⟨rfl, rfl⟩
                case round =>
                  obtain ⟨rfl, rfl⟩ := hrel
                  go_wp2_with fail
                  go_ret3
                  exact numE (by rw [HN.out]; simp [unB])
              · have h2 : a + 1 < b.length := by omega
                have hx0 : 0 < b[a].toNat := by omega
                obtain ⟨_, hy⟩ := hall 1 h2
                have hy0 : ((b[a + 1].toNat : Int) == 0) = false := by
                  rw [beq_eq_false_iff_ne]; rcases hz' h2 with h | h <;> omega
                clear hall hz hz'
                generalize b[a + 1].toNat = y at *
                generalize b[a].toNat = x at *
                go_enter Try.func39, Try.ntmps39
                go_wp2_with fail
                go_loop [8, 9] (fun v i => ∃ j : Nat, j ≤ x ∧ i = .int .i64 ((j + 1 : Nat) : Int) ∧ v = .int .u64 (unB ((b.drop (a + 1)).take j) : Nat)) (fun _ i => x + 1 - (intOf i).toNat)
                case atStart => exact ⟨0, Nat.zero_le _, rfl, rfl⟩
                case round =>
                  obtain ⟨j, hj, rfl, rfl⟩ := hrel
                  by_cases hlt : j < x
                  · obtain ⟨hb2, hy⟩ := HC.out j hlt
                    have hn7 := unB_7 ((b.drop (a + 1)).take j) (by rw [List.length_take]; omega)
                    have HN1 := Lib.hid (show unB ((b.drop (a + 1)).take (j + 1)) = unB ((b.drop (a + 1)).take j) * 256 + b[a + (j + 1)].toNat by
                      rw [take_getD _ _ _ (show a + 1 + j < b.length by omega), unB_snoc]
                      congr 3
                      omega)
                    obtain ⟨z, hz⟩ : ∃ z, z = b[a + (j + 1)].toNat := ⟨_, rfl⟩
                    have hz8 : z < 256 := by rw [hz]; exact UInt8.toNat_lt _
                    rw [← hz] at hy HN1
                    generalize unB ((b.drop (a + 1)).take j) = n at *
                    clear hz
                    go_wp2_with fail
                    go_round
                    case rel => exact ⟨j + 1, by omega, by go_num, by rw [HN1.out]; go_num⟩
                    case measure => simp [intOf]; omega
                  · obtain rfl : j = x := by omega
                    go_wp2_with fail
                    go_ret3
                    exact numE HN.out
end Go.Proofs.Ytekkcbonkjdgeaa
