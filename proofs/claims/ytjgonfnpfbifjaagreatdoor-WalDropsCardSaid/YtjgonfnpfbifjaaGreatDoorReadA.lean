/- Contracts of codec.Num and of its reference. -/
import Derived.Test.YtjgonfnpfbifjaaGreatDoorReadNum
import Derived.Test.YtjgonfnpfbifjaaGreatDoorCloneB
import Derived.Laws.BitsAllLaws
namespace Go.Proofs.YtjgonfnpfbifjaaGreatDoor
open Go.RowKit

theorem or_byte (n x : Nat) (hn : n < 72057594037927936) (hx : x < 256) : bits BinOp.or IntKind.u64 ((n : Int) * 256) (x : Int) = ((n * 256 + x : Nat) : Int) := by
  have h := u64_or_nat (n * 256) x (by omega) (by omega)
  rw [show ((n * 256 : Nat) : Int) = (n : Int) * 256 from by omega] at h
  rw [h]
  congr 1
  have := Nat.shiftLeft_add_eq_or_of_lt (a := n) (b := x) (i := 8) (by omega)
  rw [Nat.shiftLeft_eq] at this
  exact this.symm

/-- Is a place one of n, or their end? -/
def insB (n : Nat) (i : Int) : Bool := decide (0 ≤ i ∧ i ≤ (n : Int))
theorem insB_yes {n : Nat} {i : Int} (h : 0 ≤ i ∧ i ≤ (n : Int)) : insB n i = true := by simpa [insB] using h
theorem insB_no {n : Nat} {i : Int} (h : ¬ (0 ≤ i ∧ i ≤ (n : Int))) : insB n i = false := by simpa [insB] using h
set_option maxHeartbeats 400000 in
theorem codecInside (A : Option Addr) (n c : Nat) (i : Int) (w : World) (_hn : n ≤ 9223372036854775807) :
    Calls Tryz.prog 103 #[.slice A n c, .int .i64 i] w fun e w' => e = .returned (.bool (insB n i)) ∧ w = w' := by
  by_cases h0 : 0 ≤ i
  · by_cases h1 : i ≤ (n : Int)
    · rw [insB_yes ⟨h0, h1⟩]
      go_enter Tryz.func103, Tryz.ntmps103
      go_wp2_with fail
      go_ret
      exact ⟨rfl, rfl⟩
    · rw [insB_no (by omega)]
      go_enter Tryz.func103, Tryz.ntmps103
      go_wp2_with fail
      go_ret
      exact ⟨rfl, rfl⟩
  · rw [insB_no (by omega)]
    go_enter Tryz.func103, Tryz.ntmps103
    go_wp2_with fail
    go_ret
    exact ⟨rfl, rfl⟩

/-- What Num ends in. -/
def NumE (b : List UInt8) (i : Int) (w : World) (e : Ending) (w' : World) : Prop :=
  e = .returned (.tuple #[.int .u64 (numAt b i).1, .int .i64 (numAt b i).2.1, .int .i64 (numAt b i).2.2]) ∧ w = w'
theorem numE {b : List UInt8} {i x y z : Int} {w : World} (h : numAt b i = (x, y, z)) : NumE b i w (.returned (.tuple #[.int .u64 x, .int .i64 y, .int .i64 z])) w := by
  unfold NumE; rw [h]; exact ⟨rfl, rfl⟩

set_option maxRecDepth 20000 in
set_option maxHeartbeats 2000000 in
theorem codecNum (A : Option Addr) (c : Nat) (b : List UInt8) (i : Int) (w : World) (h : RB w A b) (hc : b.length ≤ c) (hm : c ≤ 9223372036854775807) (hl : b.length ≤ 210000000000000) (hi : -9223372036854775808 ≤ i ∧ i ≤ 9223372036854775807) :
    Calls Tryz.prog 81 #[.slice A b.length c, .int .i64 i] w (NumE b i w) := by
  obtain ⟨hi0, hi1⟩ := hi
  by_cases hin : 0 ≤ i ∧ i ≤ (b.length : Int)
  · have HI := Lib.hid (show insB b.length i = true from insB_yes hin)
    obtain ⟨a, rfl⟩ := Int.eq_ofNat_of_zero_le hin.1
    by_cases ha : a < b.length
    · obtain ⟨bb, off, rfl, hbb, hx⟩ := h.cell ha
      have hxl := b[a].toNat_lt
      have hac : a < c := by omega
      have hsec : ∀ h2 : a + 1 < b.length, w.cell? ⟨bb, off + a + 1, none⟩ = some (.int .u8 (b[a + 1].toNat : Int)) := fun h2 => by
        obtain ⟨b', off', e, _, hy⟩ := h.cell h2
        injection e with e
        injection e with e1 e2
        subst e1 e2
        rw [Nat.add_assoc]
        exact hy
      have hall : ∀ j, a + 1 + j < b.length → ∃ h : a + 1 + j < b.length, w.cell? ⟨bb, off + a + 1 + j, none⟩ = some (.int .u8 (b[a + 1 + j].toNat : Int)) := fun j hj => ⟨hj, by
        obtain ⟨b', off', e, _, hy⟩ := h.cell hj
        injection e with e
        injection e with e1 e2
        subst e1 e2
        rw [show off + a + 1 + j = off + (a + 1 + j) by omega]
        exact hy⟩
      by_cases hx8 : 8 < b[a].toNat
      · have HN := Lib.hid (numAt_text ha (.inl hx8))
        clear hsec hall hin
        generalize b[a].toNat = x at *
        go_enter Tryz.func81, Tryz.ntmps81
        go_wp2_with fail
        refine (codecInside _ _ _ _ _ (by omega)).mono ?_
        rintro e w' ⟨rfl, rfl⟩
        rw [HI.out]
        go_wp2_with fail
        go_ret3
        exact numE HN.out
      · by_cases hz : 0 < b[a].toNat ∧ ∃ h2 : a + 1 < b.length, b[a + 1].toNat = 0
        · have HN := Lib.hid (numAt_text ha (.inr hz))
          obtain ⟨hx0, h2, hz0⟩ := hz
          have hy := hsec h2
          rw [hz0] at hy
          clear hsec hall hin hz0
          generalize b[a].toNat = x at *
          go_enter Tryz.func81, Tryz.ntmps81
          go_wp2_with fail
          refine (codecInside _ _ _ _ _ (by omega)).mono ?_
          rintro e w' ⟨rfl, rfl⟩
          rw [HI.out]
          go_wp2_with fail
          go_ret3
          exact numE HN.out
        · have hz' : ∀ h2 : a + 1 < b.length, b[a].toNat = 0 ∨ b[a + 1].toNat ≠ 0 := fun h2 => by
            by_cases h0 : b[a].toNat = 0
            · exact .inl h0
            · exact .inr fun h3 => hz ⟨by omega, h2, h3⟩
          by_cases hs : b.length ≤ a + b[a].toNat
          · have HN := Lib.hid (numAt_short ha (by omega) hz' hs)
            have hx0 : 0 < b[a].toNat := by omega
            by_cases h2 : a + 1 < b.length
            · have hy := hsec h2
              have hy0 : ((b[a + 1].toNat : Int) == 0) = false := by
                rw [beq_eq_false_iff_ne]; rcases hz' h2 with h | h <;> omega
              clear hsec hall hin hz hz'
              generalize b[a + 1].toNat = y at *
              generalize b[a].toNat = x at *
              go_enter Tryz.func81, Tryz.ntmps81
              go_wp2_with fail
              refine (codecInside _ _ _ _ _ (by omega)).mono ?_
              rintro e w' ⟨rfl, rfl⟩
              rw [HI.out]
              go_wp2_with fail
              go_ret3
              exact numE HN.out
            · clear hsec hall hin hz hz'
              generalize b[a].toNat = x at *
              go_enter Tryz.func81, Tryz.ntmps81
              go_wp2_with fail
              refine (codecInside _ _ _ _ _ (by omega)).mono ?_
              rintro e w' ⟨rfl, rfl⟩
              rw [HI.out]
              go_wp2_with fail
              go_ret3
              exact numE HN.out
          · have HN := Lib.hid (numAt_yes ha (by omega) hz' (by omega))
            have HC : Hid (∀ j, j < b[a].toNat → ∃ h : a + 1 + j < b.length, w.cell? ⟨bb, off + a + 1 + j, none⟩ = some (.int .u8 (b[a + 1 + j].toNat : Int))) := Lib.hid fun j hj => hall j (by omega)
            have HB : Hid (a + b[a].toNat < b.length) := Lib.hid (by omega)
            by_cases h2 : a + 1 < b.length
            · by_cases h0 : b[a].toNat = 0
              · have hac1 : a + 1 < c := by omega
                clear hsec hall hin hz hz'
                generalize b[a].toNat = x at *
                subst h0
                go_enter Tryz.func81, Tryz.ntmps81
                go_wp2_with fail
                refine (codecInside _ _ _ _ _ (by omega)).mono ?_
                rintro e w' ⟨rfl, rfl⟩
                rw [HI.out]
                go_wp2_with fail
                go_loop [4, 57] (fun v i => v = .int .u64 0 ∧ i = .int .i64 0) (fun _ _ => 0)
                case atStart => exact ⟨rfl, rfl⟩
                case round =>
                  obtain ⟨rfl, rfl⟩ := hrel
                  go_wp2_with fail
                  go_ret3
                  exact numE (by rw [HN.out]; simp [unB])
              · have hy := hsec h2
                have hy0 : ((b[a + 1].toNat : Int) == 0) = false := by
                  rw [beq_eq_false_iff_ne]; rcases hz' h2 with h | h <;> omega
                have hac1 : a + 1 < c := by omega
                clear hsec hall hin hz hz'
                generalize b[a + 1].toNat = y at *
                generalize b[a].toNat = x at *
                go_enter Tryz.func81, Tryz.ntmps81
                go_wp2_with fail
                refine (codecInside _ _ _ _ _ (by omega)).mono ?_
                rintro e w' ⟨rfl, rfl⟩
                rw [HI.out]
                go_wp2_with fail
                go_loop [4, 57] (fun v i => ∃ j : Nat, j ≤ x ∧ i = .int .i64 (j : Int) ∧ v = .int .u64 (unB ((b.drop (a + 1)).take j) : Nat)) (fun _ i => x - (intOf i).toNat)
                case atStart => exact ⟨0, Nat.zero_le _, rfl, rfl⟩
                case round =>
                  obtain ⟨j, hj, rfl, rfl⟩ := hrel
                  by_cases hlt : j < x
                  · obtain ⟨hb2, hy⟩ := HC.out j hlt
                    have hn7 := unB_7 ((b.drop (a + 1)).take j) (by rw [List.length_take]; omega)
                    have HN1 := Lib.hid (show unB ((b.drop (a + 1)).take (j + 1)) = unB ((b.drop (a + 1)).take j) * 256 + b[a + 1 + j].toNat by rw [take_getD _ _ _ hb2, unB_snoc])
                    obtain ⟨z, hz⟩ : ∃ z, z = b[a + 1 + j].toNat := ⟨_, rfl⟩
                    have hz8 : z < 256 := by rw [hz]; exact UInt8.toNat_lt _
                    rw [← hz] at hy HN1
                    generalize unB ((b.drop (a + 1)).take j) = n at *
                    have hor := or_byte n z hn7 hz8
                    clear hz
                    go_wp2_with fail
                    go_round
                    case rel => exact ⟨j + 1, by omega, by go_num, by rw [HN1.out]; go_num⟩
                    case measure => simp [intOf]; omega
                  · obtain rfl : j = x := by omega
                    go_wp2_with fail
                    go_ret3
                    exact numE HN.out
            · have h0 : b[a].toNat = 0 := by omega
              clear hsec hall hin hz hz'
              generalize b[a].toNat = x at *
              subst h0
              by_cases hac1 : a + 1 < c
              · skip
                go_enter Tryz.func81, Tryz.ntmps81
                go_wp2_with fail
                refine (codecInside _ _ _ _ _ (by omega)).mono ?_
                rintro e w' ⟨rfl, rfl⟩
                rw [HI.out]
                go_wp2_with fail
                go_loop [4, 57] (fun v i => v = .int .u64 0 ∧ i = .int .i64 0) (fun _ _ => 0)
                case atStart => exact ⟨rfl, rfl⟩
                case round =>
                  obtain ⟨rfl, rfl⟩ := hrel
                  go_wp2_with fail
                  go_ret3
                  exact numE (by rw [HN.out]; simp [unB])
              · skip
                go_enter Tryz.func81, Tryz.ntmps81
                go_wp2_with fail
                refine (codecInside _ _ _ _ _ (by omega)).mono ?_
                rintro e w' ⟨rfl, rfl⟩
                rw [HI.out]
                go_wp2_with fail
                go_loop [4, 57] (fun v i => v = .int .u64 0 ∧ i = .int .i64 0) (fun _ _ => 0)
                case atStart => exact ⟨rfl, rfl⟩
                case round =>
                  obtain ⟨rfl, rfl⟩ := hrel
                  go_wp2_with fail
                  go_ret3
                  exact numE (by rw [HN.out]; simp [unB])
    · obtain rfl : a = b.length := by omega
      have HN := Lib.hid (numAt_end (b := b))
      clear hin ha
      by_cases hcl : b.length < c
      · go_enter Tryz.func81, Tryz.ntmps81
        go_wp2_with fail
        refine (codecInside _ _ _ _ _ (by omega)).mono ?_
        rintro e w' ⟨rfl, rfl⟩
        rw [HI.out]
        go_wp2_with fail
        go_ret3
        exact numE HN.out
      · obtain rfl : b.length = c := by omega
        go_enter Tryz.func81, Tryz.ntmps81
        go_wp2_with fail
        refine (codecInside _ _ _ _ _ (by omega)).mono ?_
        rintro e w' ⟨rfl, rfl⟩
        rw [HI.out]
        go_wp2_with fail
        go_ret3
        exact numE HN.out
  · have HI := Lib.hid (show insB b.length i = false from insB_no hin)
    have HN := Lib.hid (numAt_out (b := b) (i := i) (by omega))
    clear hin
    go_enter Tryz.func81, Tryz.ntmps81
    go_wp2_with fail
    refine (codecInside _ _ _ _ _ (by omega)).mono ?_
    rintro e w' ⟨rfl, rfl⟩
    rw [HI.out]
    go_wp2_with fail
    go_ret3
    exact numE HN.out
end Go.Proofs.YtjgonfnpfbifjaaGreatDoor
