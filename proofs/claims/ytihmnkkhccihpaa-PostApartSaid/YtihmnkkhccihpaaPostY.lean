/- The law's act whole; the walk of PostActs. -/
import Derived.Test.YtihmnkkhccihpaaPostT
import Derived.Test.YtihmnkkhccihpaaPostW2
namespace Go.Proofs.Ytihmnkkhccihpaa
open Go.RowKit

section
variable {n N : Nat} {w w' : World} {g g2 : Nat} {V : List Val} {C : Int × Int → Bool} {room : Int}
theorem lawAct (k a b : Int) (D : Option Addr) (c : Nat) (d : List UInt8) (h : PI n w g V C room) (r : RI n w g2 V C room N) (hn : n ≤ w.heap.size) (hN : N < 4096) (hr0 : room ≤ 4096) (ha : I64 a) (hb : I64 b) (hD : ∀ w', Below n w w' → RB w' D d) (hd : d.length ≤ 140737488351232) :
    Calls Try.prog 19 #[.pointer (some ⟨g, 0, none⟩), .pointer (some ⟨g2, 0, none⟩), .agg #[.int .i64 k, .int .i64 a, .int .i64 b, .slice D d.length c]] w (BothE n g g2 (actV V C room k a b d) (actC C k a b) room room (N + 1) w) := by
  by_cases h1 : k = 1
  · exact act_send k a b D c d h r hn hN hr0 ha hb hD hd h1
  by_cases h2 : k = 2
  · exact act_take k a b D c d h r hn hN hr0 ha hb hD hd h2
  by_cases h3 : k = 3
  · exact act_twin k a b D c d h r hn hN hr0 ha hb hD hd h3
  by_cases h4 : k = 4
  · exact act_cut k a b D c d h r hn hN hr0 ha hb hD hd h4
  by_cases h5 : k = 5
  · exact act_heal k a b D c d h r hn hN hr0 ha hb hD hd h5
  by_cases h6 : k = 6
  · exact act_copy k a b D c d h r hn hN hr0 ha hb hD hd h6
  exact act_look k a b D c d h r hn hN hr0 ha hb hD hd h1 h2 h3 h4 h5 h6
theorem refNew (w : World) (room : Int) (hn : n ≤ w.heap.size) : RI n (w.alloc (.cells #[.int .i64 room, .slice none 0 0, .slice none 0 0] 45)) w.heap.size [] (fun _ => false) room 0 :=
  ⟨[], none, 0, [], none, 0, ⟨Blk.new w _ _, OR.nil _ _ _ _, by simp, OR.nil _ _ _ _, by simp⟩, ⟨hn, by simp, by simp, by simp⟩, rfl, List.nodup_nil, fun x => by simp, Nat.le_refl _⟩
end

set_option maxRecDepth 20000 in
set_option maxHeartbeats 8000000 in
theorem walkPostActs (room : Int) (X : Option Addr) (cx : Nat) (L : List (List Fv)) (w : World) (hroom : I64 room) (hX : RS w X 4 (L.map (·.map Fv.val))) (hL : L.length ≤ 9223372036854775807) (hR : ∀ r ∈ L, rowOk w actK r) :
    Calls Try.prog 6 #[.int .i64 room, .slice X L.length cx] w (Yes w) := by
  have S := Lib.hid postAnswers
  have HX := Lib.hid hX
  have HR := Lib.hid hR
  clear hX hR
  by_cases hbad : room < 0 ∨ 4096 < room
  · have N := Lib.hid (postNew_bad room hbad w)
    by_cases hb0 : room < 0
    · have hb1 : ¬ 0 ≤ room := by omega
      go_enter Try.func6, Try.ntmps6
      go_wp2_with fail
      refine N.out.mono ?_
      rintro e w1 ⟨rfl, rfl⟩
      have hb1 : Below w.heap.size w (w.alloc (.cells #[.int .i64 room, .slice none 0 0, .slice none 0 0] 45)) := (Below.refl _ _).alloc (Nat.le_refl _) _
      go_wp2_with fail
      refine (S.out _).mono ?_
      rintro e w2 ⟨rfl, hb2⟩
      have hB2 := hb1.trans (hb2.mono hb1.size)
      clear hb1 hb2
      go_wp2_with fail
      go_loopw [5, 8] (fun p i wr => p = .pointer none ∧ i = .int .i64 0 ∧ wr = w2) (fun _ _ _ => 0)
      case atStart => exact ⟨rfl, rfl, rfl⟩
      case round =>
        obtain ⟨rfl, rfl, rfl⟩ := hrel
        by_cases h0 : (0 : Int) < (L.length : Int)
        · go_wp2_with fail
          go_ret
          exact ⟨rfl, hB2⟩
        · go_wp2_with fail
          go_ret
          exact ⟨rfl, hB2⟩
    · have hb1 : 0 ≤ room := by omega
      have hb2 : ¬ room ≤ 4096 := by omega
      go_enter Try.func6, Try.ntmps6
      go_wp2_with fail
      refine N.out.mono ?_
      rintro e w1 ⟨rfl, rfl⟩
      have hq1 : Below w.heap.size w (w.alloc (.cells #[.int .i64 room, .slice none 0 0, .slice none 0 0] 45)) := (Below.refl _ _).alloc (Nat.le_refl _) _
      go_wp2_with fail
      refine (S.out _).mono ?_
      rintro e w2 ⟨rfl, hq2⟩
      have hB2 := hq1.trans (hq2.mono hq1.size)
      clear hq1 hq2
      go_wp2_with fail
      go_loopw [5, 8] (fun p i wr => p = .pointer none ∧ i = .int .i64 0 ∧ wr = w2) (fun _ _ _ => 0)
      case atStart => exact ⟨rfl, rfl, rfl⟩
      case round =>
        obtain ⟨rfl, rfl, rfl⟩ := hrel
        by_cases h0 : (0 : Int) < (L.length : Int)
        · go_wp2_with fail
          go_ret
          exact ⟨rfl, hB2⟩
        · go_wp2_with fail
          go_ret
          exact ⟨rfl, hB2⟩
  · have hr0 : 0 ≤ room := by omega
    have hr1 : room ≤ 4096 := by omega
    have N := Lib.hid (fun w => postNewI (w := w) room hr0 hr1)
    have HR1 := Lib.hid hr1
    clear hbad
    go_enter Try.func6, Try.ntmps6
    go_wp2_with fail
    refine (N.out _).mono ?_
    rintro e w1 ⟨g, rfl, hP1, hb1⟩
    obtain ⟨g2, hg2⟩ : ∃ g2, g2 = w1.heap.size := ⟨_, rfl⟩
    have hal : Below w1.heap.size w1 (w1.alloc (.cells #[.int .i64 room, .slice none 0 0, .slice none 0 0] 45)) := (Below.refl _ _).alloc (Nat.le_refl _) _
    have hR1 := refNew (n := w.heap.size) w1 room hb1.size
    have hP2 := hP1.below hal
    have hB2 := hb1.trans (hal.mono hb1.size)
    rw [← hg2] at hR1
    have HG := Lib.hid hg2
    clear hP1 hb1 hal hg2
    go_wp2_with fail
    rw [← HG.out]
    generalize w1.alloc (.cells #[.int .i64 room, .slice none 0 0, .slice none 0 0] 45) = w2 at *
    refine (S.out _).mono ?_
    rintro e w3 ⟨rfl, hb3⟩
    have hP3 := hP2.below hb3
    have hR3 := hR1.below hb3
    have hB3 := hB2.trans (hb3.mono hB2.size)
    clear hP2 hR1 hB2 hb3
    go_wp2_with fail
    go_loopw [5, 8] (fun p i wr => ∃ (k g : Nat) (V : List Val) (C : Int × Int → Bool), k ≤ L.length ∧ k ≤ 200 ∧ i = .int .i64 (k : Int) ∧ p = .pointer (some ⟨g, 0, none⟩) ∧ PI w.heap.size wr g V C room ∧ RI w.heap.size wr g2 V C room k ∧ Below w.heap.size w wr)
      (fun _ i _ => L.length - (intOf i).toNat)
    case atStart => exact ⟨0, g, [], _, Nat.zero_le _, Nat.zero_le _, rfl, rfl, hP3, hR3, hB3⟩
    case round =>
      obtain ⟨k, g, V, C, hk, hk2, rfl, rfl, hP, hR, hB⟩ := hrel
      clear hP3 hR3 hB3
      by_cases hlt : k < L.length
      · by_cases hlt2 : k < 200
        · obtain ⟨b, off, rfl, _, _⟩ := (HX.out.below hB).row (i := k) (by simpa using hlt)
          obtain ⟨ak, aa, ab, D, c, d, hrow, hik, hia, hib, hD, hdc, hc9, hd⟩ := act_row (HR.out L[k] (List.getElem_mem hlt))
          have HC : Hid (∀ w', Below w.heap.size w w' → w'.cell? ⟨b, off + k * 4, none⟩ = some (.int .i64 ak) ∧ w'.cell? ⟨b, off + k * 4 + 1, none⟩ = some (.int .i64 aa) ∧ w'.cell? ⟨b, off + k * 4 + 2, none⟩ = some (.int .i64 ab) ∧ w'.cell? ⟨b, off + k * 4 + 3, none⟩ = some (.slice D d.length c)) :=
            Lib.hid fun w' hw' => act_cells (X := none) (HX.out.below hw') (by rw [List.getElem?_eq_getElem hlt, hrow])
          have HA : Hid (∀ w' g', PI w.heap.size w' g' V C room → RI w.heap.size w' g2 V C room k → Below w.heap.size w w' → Calls Try.prog 19 #[.pointer (some ⟨g', 0, none⟩), .pointer (some ⟨g2, 0, none⟩), .agg #[.int .i64 ak, .int .i64 aa, .int .i64 ab, .slice D d.length c]] w' (BothE w.heap.size g' g2 (actV V C room ak aa ab d) (actC C ak aa ab) room room (k + 1) w')) :=
            Lib.hid fun w' g' p r hb => lawAct ak aa ab D c d p r hb.size (by omega) HR1.out hia hib (fun w'' hw'' => hD.below (hb.trans hw'')) hd
          obtain ⟨c0, c1, c2, c3⟩ := HC.out wr hB
          clear hD hrow hik hia hib hd hdc hc9
          by_cases h6 : ak = 6
          · subst h6
            go_wp2_with fail
            refine (postCopyI hP hB.size).mono ?_
            rintro e wx ⟨g', rfl, hPx', hbx⟩
            have hPx := hPx'.mono hB.size
            have hRx := hR.below hbx
            have hBx := hB.trans (hbx.mono hB.size)
            clear hPx' hbx
            clear hP hR hB c0 c1 c2 c3
            obtain ⟨c0, c1, c2, c3⟩ := HC.out _ hBx
            go_wp2_with fail
            refine (HA.out _ _ hPx hRx hBx).mono ?_
            rintro e w4 ⟨rfl, hP4, hR4, hB4⟩
            have hB4 := hBx.trans hB4
            clear hPx hRx hBx c0 c1 c2 c3
            go_wp2_with fail
            refine (lawAlike hP4 hR4 hB4.size).mono ?_
            rintro e w5 ⟨rfl, hb5⟩
            have hP5 := hP4.below hb5
            have hR5 := hR4.below hb5
            have hB5 := hB4.trans (hb5.mono hB4.size)
            clear hP4 hR4 hB4 hb5
            go_wp2_with fail
            go_roundw
            case rel => exact ⟨k + 1, g', _, _, by omega, by omega, by go_num, rfl, hP5, hR5, hB5⟩
            case measure => simp [intOf]; omega
          · have h6' : (ak == 6) = false := by simpa using h6
            have hPx := hP
            have hRx := hR
            have hBx := hB
            clear hP hR hB c0 c1 c2 c3
            obtain ⟨c0, c1, c2, c3⟩ := HC.out _ hBx
            go_wp2_with fail
            refine (HA.out _ _ hPx hRx hBx).mono ?_
            rintro e w4 ⟨rfl, hP4, hR4, hB4⟩
            have hB4 := hBx.trans hB4
            clear hPx hRx hBx c0 c1 c2 c3
            go_wp2_with fail
            refine (lawAlike hP4 hR4 hB4.size).mono ?_
            rintro e w5 ⟨rfl, hb5⟩
            have hP5 := hP4.below hb5
            have hR5 := hR4.below hb5
            have hB5 := hB4.trans (hb5.mono hB4.size)
            clear hP4 hR4 hB4 hb5
            go_wp2_with fail
            go_roundw
            case rel => exact ⟨k + 1, g, _, _, by omega, by omega, by go_num, rfl, hP5, hR5, hB5⟩
            case measure => simp [intOf]; omega
        · have h2 : ¬ (k : Int) < 200 := by omega
          go_wp2_with fail
          go_ret
          exact ⟨rfl, hB⟩
      · go_wp2_with fail
        go_ret
        exact ⟨rfl, hB⟩
end Go.Proofs.Ytihmnkkhccihpaa
