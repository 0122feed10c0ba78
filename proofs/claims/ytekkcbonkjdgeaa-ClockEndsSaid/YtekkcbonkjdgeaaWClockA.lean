/- The walks of ClockActs, ClockEnds. -/
import Derived.Test.YtekkcbonkjdgeaaClockI
import Derived.Test.YtekkcbonkjdgeaaArgsS
import Derived.Test.YtekkcbonkjdgeaaI64S
namespace Go.Proofs.Ytekkcbonkjdgeaa
open Go.RowKit

abbrev actK9 : List FK := [.int .i64, .int .i64, .int .i64, .int .u64]
theorem act_row9 {w : World} {r : List Fv} (h : rowOk w actK9 r) : ∃ (k x n : Int) (d : Nat), r = [.int .i64 k, .int .i64 x, .int .i64 n, .int .u64 (d : Int)] ∧ I64 k ∧ I64 x ∧ I64 n ∧ d < 18446744073709551616 := by
  match r, h with
  | [.int k0 n0, .int k1 n1, .int k2 n2, .int k3 n3], h =>
    obtain ⟨⟨rfl, h0⟩, ⟨rfl, h1⟩, ⟨rfl, h2⟩, ⟨rfl, h3⟩, _⟩ := h
    obtain ⟨u0, u1⟩ := u64_of_wf h3
    obtain ⟨d, rfl⟩ := Int.eq_ofNat_of_zero_le u0
    exact ⟨n0, n1, n2, d, rfl, i64_of_wf h0, i64_of_wf h1, i64_of_wf h2, by omega⟩
theorem act_cells9 {w : World} {L : List (List Fv)} {b off i : Nat} (hX : RS w (some ⟨b, off, none⟩) 4 (L.map (·.map Fv.val))) {k x n : Int} {d : Nat} (hi : L[i]? = some [.int .i64 k, .int .i64 x, .int .i64 n, .int .u64 (d : Int)]) :
    w.cell? ⟨b, off + i * 4, none⟩ = some (.int .i64 k) ∧ w.cell? ⟨b, off + i * 4 + 1, none⟩ = some (.int .i64 x) ∧ w.cell? ⟨b, off + i * 4 + 2, none⟩ = some (.int .i64 n) ∧ w.cell? ⟨b, off + i * 4 + 3, none⟩ = some (.int .u64 (d : Int)) := by
  have hg := fun (j : Nat) (v : Value) (hj : ([.int .i64 k, .int .i64 x, .int .i64 n, .int .u64 (d : Int)] : List Value)[j]? = some v) => hX.get (i := i) (cs := [.int .i64 k, .int .i64 x, .int .i64 n, .int .u64 (d : Int)]) (by rw [List.getElem?_map, hi]; rfl) j hj
  exact ⟨by simpa using hg 0 _ rfl, hg 1 _ rfl, hg 2 _ rfl, hg 3 _ rfl⟩

set_option maxRecDepth 20000 in
set_option maxHeartbeats 8000000 in
theorem walkClockActs (nodes edges rho : Int) (X : Option Addr) (cx : Nat) (L : List (List Fv)) (w : World) (_h1 : I64 nodes) (_h2 : I64 edges) (_h3 : I64 rho) (hX : RS w X 4 (L.map (·.map Fv.val))) (hL : L.length ≤ 9223372036854775807) (hR : ∀ r ∈ L, rowOk w actK9 r) :
    Calls Try.prog 10 #[.int .i64 nodes, .int .i64 edges, .int .i64 rho, .slice X L.length cx] w (Yes w) := by
  have S := Lib.hid clockAnswers
  have HX := Lib.hid hX
  have HR := Lib.hid hR
  clear hX hR
  cases hno : newOk nodes edges rho
  · have N := Lib.hid (clockNew_bad nodes edges rho w hno)
    have M := Lib.hid (refNew_bad nodes edges rho w hno)
    clear hno
    go_enter Try.func10, Try.ntmps10
    go_wp2_with fail
    refine N.out.mono ?_
    rintro e w1 ⟨rfl, rfl⟩
    go_wp2_with fail
    refine M.out.mono ?_
    rintro e w1 ⟨rfl, rfl⟩
    go_wp2_with fail
    refine (S.out _).mono ?_
    rintro e w2 ⟨rfl, hb2⟩
    go_wp2_with fail
    go_loopw [9, 13] (fun p i wr => p = .pointer none ∧ i = .int .i64 0 ∧ wr = w2) (fun _ _ _ => 0)
    case atStart => exact ⟨rfl, rfl, rfl⟩
    case round =>
      obtain ⟨rfl, rfl, rfl⟩ := hrel
      by_cases h0 : (0 : Int) < (L.length : Int)
      · go_wp2_with fail
        go_ret
        exact ⟨rfl, hb2⟩
      · go_wp2_with fail
        go_ret
        exact ⟨rfl, hb2⟩
  · have N := Lib.hid (clockNew nodes edges rho w hno)
    have M := Lib.hid (fun w' => refNewC nodes edges rho w' hno)
    clear hno
    go_enter Try.func10, Try.ntmps10
    go_wp2_with fail
    refine N.out.mono ?_
    rintro e w1 ⟨g, rfl, hP1, hb1⟩
    go_wp2_with fail
    refine (M.out _).mono ?_
    rintro e w2 ⟨g2, rfl, hR2', hb2⟩
    have hP2 := hP1.below hb2
    have hR2 : WI w.heap.size w2 g2 (clk0 nodes edges rho) := by
      obtain ⟨gt, q1, q2, q3, q4⟩ := hR2'
      have := hb1.size
      exact ⟨gt, q1, q2, ⟨by omega, by omega⟩, q4⟩
    have hB2 := hb1.trans (hb2.mono hb1.size)
    clear hP1 hb1 hb2 hR2'
    go_wp2_with fail
    refine (S.out _).mono ?_
    rintro e w3 ⟨rfl, hb3⟩
    have hP3 := hP2.below hb3
    have hR3 := hR2.below hb3
    have hB3 := hB2.trans (hb3.mono hB2.size)
    clear hP2 hR2 hB2 hb3
    go_wp2_with fail
    go_loopw [9, 13] (fun p i wr => ∃ (k g : Nat) (s : Clk), k ≤ L.length ∧ k ≤ 200 ∧ i = .int .i64 (k : Int) ∧ p = .pointer (some ⟨g, 0, none⟩) ∧ CI w.heap.size wr g s ∧ WI w.heap.size wr g2 s ∧ Below w.heap.size w wr)
      (fun _ i _ => L.length - (intOf i).toNat)
    case atStart => exact ⟨0, g, _, Nat.zero_le _, Nat.zero_le _, rfl, rfl, hP3, hR3, hB3⟩
    case round =>
      obtain ⟨k, g, s, hk, hk2, rfl, rfl, hP, hR, hB⟩ := hrel
      clear hP3 hR3 hB3
      by_cases hlt : k < L.length
      · by_cases hlt2 : k < 200
        · obtain ⟨b, off, rfl, _, _⟩ := (HX.out.below hB).row (i := k) (by simpa using hlt)
          obtain ⟨ak, ax, an, d, hrow, _, hix, hin, hd⟩ := act_row9 (HR.out L[k] (List.getElem_mem hlt))
          have HC : Hid (∀ w', Below w.heap.size w w' → w'.cell? ⟨b, off + k * 4, none⟩ = some (.int .i64 ak) ∧ w'.cell? ⟨b, off + k * 4 + 1, none⟩ = some (.int .i64 ax) ∧ w'.cell? ⟨b, off + k * 4 + 2, none⟩ = some (.int .i64 an) ∧ w'.cell? ⟨b, off + k * 4 + 3, none⟩ = some (.int .u64 (d : Int))) :=
            Lib.hid fun w' hw' => act_cells9 (HX.out.below hw') (by rw [List.getElem?_eq_getElem hlt, hrow])
          have HA : Hid (∀ w' g', CI w.heap.size w' g' s → WI w.heap.size w' g2 s → Below w.heap.size w w' → Calls Try.prog 35 #[.pointer (some ⟨g', 0, none⟩), .pointer (some ⟨g2, 0, none⟩), .agg #[.int .i64 ak, .int .i64 ax, .int .i64 an, .int .u64 (d : Int)]] w' (BothC w.heap.size g' g2 (actS s ak ax an d) w')) :=
            Lib.hid fun w' g' p r hb => clockAct ak ax an d p r hb.size hix hd
          obtain ⟨c0, c1, c2, c3⟩ := HC.out wr hB
          clear hrow hix hin hd
          by_cases h6 : ak = 3
          · subst h6
            go_wp2_with fail
            refine (clockCopy hP).mono ?_
            rintro e wx ⟨g', rfl, hPx', hbx⟩
            have hPx := hPx'.mono hB.size
            have hRx := hR.below hbx
            have hBx := hB.trans (hbx.mono hB.size)
            clear hPx' hbx hP hR hB c0 c1 c2 c3
            obtain ⟨c0, c1, c2, c3⟩ := HC.out _ hBx
            go_wp2_with fail
            refine (HA.out _ _ hPx hRx hBx).mono ?_
            rintro e w4 ⟨rfl, hP4, hR4, hB4⟩
            have hB4 := hBx.trans hB4
            clear hPx hRx hBx c0 c1 c2 c3
            go_wp2_with fail
            refine (clockAlike hP4 hR4).mono ?_
            rintro e w5 ⟨rfl, hb5⟩
            have hP5 := hP4.below hb5
            have hR5 := hR4.below hb5
            have hB5 := hB4.trans (hb5.mono hB4.size)
            clear hP4 hR4 hB4 hb5
            go_wp2_with fail
            go_roundw
            case rel => exact ⟨k + 1, g', _, by omega, by omega, by go_num, rfl, hP5, hR5, hB5⟩
            case measure => simp [intOf]; omega
          · have h6' : (ak == 3) = false := by simpa using h6
            have hPx := hP
            have hRx := hR
            have hBx := hB
            clear hP hR hB c0 c1 c2 c3
            obtain ⟨c0, c1, c2, c3⟩ := HC.out _ hBx
            go_wp2_with fail
            refine (HA.out _ _ hPx hRx hBx).mono ?_
            rintro e w4 ⟨rfl, hP4, hR4, hB4⟩
            have hB4 := hBx.trans hB4
            clear hPx hRx hBx c0 c1 c2 c3
            go_wp2_with fail
            refine (clockAlike hP4 hR4).mono ?_
            rintro e w5 ⟨rfl, hb5⟩
            have hP5 := hP4.below hb5
            have hR5 := hR4.below hb5
            have hB5 := hB4.trans (hb5.mono hB4.size)
            clear hP4 hR4 hB4 hb5
            go_wp2_with fail
            go_roundw
            case rel => exact ⟨k + 1, g, _, by omega, by omega, by go_num, rfl, hP5, hR5, hB5⟩
            case measure => simp [intOf]; omega
        · have h2 : ¬ (k : Int) < 200 := by omega
          go_wp2_with fail
          go_ret
          exact ⟨rfl, hB⟩
      · go_wp2_with fail
        go_ret
        exact ⟨rfl, hB⟩
end Go.Proofs.Ytekkcbonkjdgeaa
