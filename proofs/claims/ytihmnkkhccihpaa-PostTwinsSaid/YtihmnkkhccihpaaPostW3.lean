/- The walk of PostTwins. -/
import Derived.Test.YtihmnkkhccihpaaPostW2
import Derived.Deep.LoopGhost
namespace Go.Proofs.Ytihmnkkhccihpaa
open Go.RowKit

theorem atV_last {V : List Val} {v : Val} {k i : Nat} (h1 : V.length ≤ i) (h2 : i < V.length + k) : atV (V ++ List.replicate k v) (i : Int) = (v, 0) := by
  rw [atV, if_pos (by simp; omega), Int.toNat_natCast, List.getD_eq_getElem?_getD, List.getElem?_append_right h1, List.getElem?_replicate, if_pos (by omega)]
  rfl
theorem atV_first {V : List Val} {i : Nat} (h : i < V.length) (W : List Val) : atV (V ++ W) (i : Int) = (V[i], 0) := by
  rw [atV, if_pos (by simp; omega), Int.toNat_natCast, List.getD_eq_getElem?_getD, List.getElem?_append_left h, List.getElem?_eq_getElem h]
  rfl

set_option maxRecDepth 20000 in
set_option maxHeartbeats 8000000 in
theorem walkPostTwins (X : Option Addr) (cx : Nat) (L : List (List Fv)) (which times : Int) (w : World) (hX : RS w X 4 (L.map (·.map Fv.val))) (hL : L.length ≤ 9223372036854775807) (hR : ∀ r ∈ L, rowOk w actK r) (hw0 : 0 ≤ which ∧ which ≤ 255) (ht0 : 0 ≤ times ∧ times ≤ 255) :
    Calls Try.prog 5 #[.slice X L.length cx, .int .u8 which, .int .u8 times] w (Yes w) := by
  have S := Lib.hid postAnswers
  have N := Lib.hid (fun w => postNewI (w := w) 4096 (by decide) (by decide))
  have HX := Lib.hid hX
  have HR := Lib.hid hR
  obtain ⟨q, rfl⟩ : ∃ q : Nat, which = (q : Int) := ⟨which.toNat, by omega⟩
  obtain ⟨t, rfl⟩ : ∃ t : Nat, times = (t : Int) := ⟨times.toNat, by omega⟩
  have hq : q ≤ 255 := by omega
  have ht : t ≤ 255 := by omega
  clear hX hR hw0 ht0
  by_cases h200 : 200 < L.length
  · have h5 : (200 : Int) < (L.length : Int) := by omega
    go_enter Try.func5, Try.ntmps5
    go_wp2_with fail
    refine (N.out _).mono ?_
    rintro e w1 ⟨g, rfl, hP1, hb1⟩
    go_wp2_with fail
    refine (S.out _).mono ?_
    rintro e w2 ⟨rfl, hb2⟩
    have hB2 := hb1.trans (hb2.mono hb1.size)
    clear hb1 hb2 hP1
    go_wp2_with fail
    refine (S.out _).mono ?_
    rintro e w3 ⟨rfl, hb3⟩
    have hB3 := hB2.trans (hb3.mono hB2.size)
    clear hb3 hB2
    go_wp2_with fail
    go_ret
    exact ⟨rfl, hB3⟩
  · have h5 : ¬ (200 : Int) < (L.length : Int) := by omega
    have hL5 : L.length ≤ 200 := by omega
    clear hL h200
    go_enter Try.func5, Try.ntmps5
    go_wp2_with fail
    refine (N.out _).mono ?_
    rintro e w1 ⟨g, rfl, hP1, hb1⟩
    go_wp2_with fail
    refine (S.out _).mono ?_
    rintro e w2 ⟨rfl, hb2⟩
    have hB2 := hb1.trans (hb2.mono hb1.size)
    have hP2 := hP1.below hb2
    clear hb1 hb2 hP1
    go_wp2_with fail
    go_loopw [9] (fun i wr => ∃ (k : Nat) (V : List Val), k ≤ L.length ∧ i = .int .i64 (k : Int) ∧ V.length ≤ k ∧ PI w.heap.size wr g V (fun _ => false) 4096 ∧ Below w.heap.size w wr)
      (fun i _ => L.length - (intOf i).toNat)
    case atStart => exact ⟨0, [], Nat.zero_le _, rfl, Nat.le_refl _, hP2, hB2⟩
    case round =>
      obtain ⟨k, V, hk, rfl, hVk, hP, hB⟩ := hrel
      clear hP2 hB2
      by_cases hlt : k < L.length
      · obtain ⟨b, off, rfl, _, _⟩ := (HX.out.below hB).row (i := k) (by simpa using hlt)
        obtain ⟨ak, aa, ab, D, c, d, hrow, hik, hia, hib, hD, hdc, hc9, hd⟩ := act_row (HR.out L[k] (List.getElem_mem hlt))
        have HC : Hid (∀ w', Below w.heap.size w w' → w'.cell? ⟨b, off + k * 4, none⟩ = some (.int .i64 ak) ∧ w'.cell? ⟨b, off + k * 4 + 1, none⟩ = some (.int .i64 aa) ∧ w'.cell? ⟨b, off + k * 4 + 2, none⟩ = some (.int .i64 ab) ∧ w'.cell? ⟨b, off + k * 4 + 3, none⟩ = some (.slice D d.length c)) :=
          Lib.hid fun w' hw' => act_cells (X := none) (HX.out.below hw') (by rw [List.getElem?_eq_getElem hlt, hrow])
        have HD := Lib.hid hD
        clear hD hrow hik hia hib
        go_wp2_with fail
        refine wp_region_planE_gen (by kernel_rfl) [(0, none), (1, none), (2, none), (3, none), (4, none), (5, none), (6, none), (7, none), (8, none), (9, none), (10, none), (12, none), (13, none), (14, none), (15, none), (16, none), (11, some []), (17, some [16]), (18, some [0, 5, 10])] (by kernel_rfl) (by kernel_rfl) (by decide) ?_
        intro wq hwq
        have hbq : Below wr.heap.size wr wq := by rw [hwq]; exact (Below.refl _ _).drew
        have hBq := hB.trans (hbq.mono hB.size)
        have hPq := hP.below hbq
        clear hwq hbq hP hB
        obtain ⟨c0, c1, c2, c3⟩ := HC.out wq hBq
        iterate 5 (refine planE_pure (v := ?_) rfl (by rfl) (fun w' => ?_) ?_; rotate_left; (focus (simp only [List.getElem_toArray, List.getElem_cons_succ, List.getElem_cons_zero]; go_simp; first | with_reducible rfl | (simp (disch := omega) only [if_pos, if_neg, Result.andThen_ok]; try with_reducible rfl) | skip)); try simp only [List.getElem_toArray, List.getElem_cons_succ, List.getElem_cons_zero, Act.put, List.setIfInBounds_toArray, List.set_cons_zero, List.set_cons_succ])
        refine planE_cells (v := ?_) [(⟨b, off + k * 4 + 1, none⟩, .int .i64 aa)] (by simp; and_intros <;> assumption) rfl (by rfl) (fun w' hw' => ?_) ?_; rotate_left; (focus (simp only [List.forall_mem_cons, List.not_mem_nil, false_imp_iff, implies_true, and_true] at hw'; simp only [List.getElem_toArray, List.getElem_cons_succ, List.getElem_cons_zero]; go_simp; first | with_reducible rfl | (simp (disch := omega) only [if_pos, if_neg, Result.andThen_ok]; try with_reducible rfl) | skip)); try simp only [List.getElem_toArray, List.getElem_cons_succ, List.getElem_cons_zero, Act.put, List.setIfInBounds_toArray, List.set_cons_zero, List.set_cons_succ]
        iterate 4 (refine planE_pure (v := ?_) rfl (by rfl) (fun w' => ?_) ?_; rotate_left; (focus (simp only [List.getElem_toArray, List.getElem_cons_succ, List.getElem_cons_zero]; go_simp; first | with_reducible rfl | (simp (disch := omega) only [if_pos, if_neg, Result.andThen_ok]; try with_reducible rfl) | skip)); try simp only [List.getElem_toArray, List.getElem_cons_succ, List.getElem_cons_zero, Act.put, List.setIfInBounds_toArray, List.set_cons_zero, List.set_cons_succ])
        refine planE_cells (v := ?_) [(⟨b, off + k * 4 + 2, none⟩, .int .i64 ab)] (by simp; and_intros <;> assumption) rfl (by rfl) (fun w' hw' => ?_) ?_; rotate_left; (focus (simp only [List.forall_mem_cons, List.not_mem_nil, false_imp_iff, implies_true, and_true] at hw'; simp only [List.getElem_toArray, List.getElem_cons_succ, List.getElem_cons_zero]; go_simp; first | with_reducible rfl | (simp (disch := omega) only [if_pos, if_neg, Result.andThen_ok]; try with_reducible rfl) | skip)); try simp only [List.getElem_toArray, List.getElem_cons_succ, List.getElem_cons_zero, Act.put, List.setIfInBounds_toArray, List.set_cons_zero, List.set_cons_succ]
        iterate 4 (refine planE_pure (v := ?_) rfl (by rfl) (fun w' => ?_) ?_; rotate_left; (focus (simp only [List.getElem_toArray, List.getElem_cons_succ, List.getElem_cons_zero]; go_simp; first | with_reducible rfl | (simp (disch := omega) only [if_pos, if_neg, Result.andThen_ok]; try with_reducible rfl) | skip)); try simp only [List.getElem_toArray, List.getElem_cons_succ, List.getElem_cons_zero, Act.put, List.setIfInBounds_toArray, List.set_cons_zero, List.set_cons_succ])
        refine planE_cells (v := ?_) [(⟨b, off + k * 4 + 3, none⟩, .slice D d.length c)] (by simp; and_intros <;> assumption) rfl (by rfl) (fun w' hw' => ?_) ?_; rotate_left; (focus (simp only [List.forall_mem_cons, List.not_mem_nil, false_imp_iff, implies_true, and_true] at hw'; simp only [List.getElem_toArray, List.getElem_cons_succ, List.getElem_cons_zero]; go_simp; first | with_reducible rfl | (simp (disch := omega) only [if_pos, if_neg, Result.andThen_ok]; try with_reducible rfl) | skip)); try simp only [List.getElem_toArray, List.getElem_cons_succ, List.getElem_cons_zero, Act.put, List.setIfInBounds_toArray, List.set_cons_zero, List.set_cons_succ]
        refine planE_eff rfl (by rfl) (fun K hK => ?_)
        go_simp
        have hb2 : Below wq.heap.size wq (wq.alloc (.cells #[] 5)) := (Below.refl _ _).alloc (Nat.le_refl _) _
        have hO2 := OB.made0 wq hBq.size
        have hB2 := hBq.trans (hb2.mono hBq.size)
        clear c0 c1 c2 c3 hb2
        obtain ⟨c0, c1, c2, c3⟩ := HC.out _ hB2
        refine hK _ _ (by simp [owed, left] <;> (and_intros <;> first | trivial | assumption)) ?_
        clear hK K
        try simp only [List.getElem_toArray, List.getElem_cons_succ, List.getElem_cons_zero, Act.put, List.setIfInBounds_toArray, List.set_cons_zero, List.set_cons_succ]
        refine planE_eff rfl (by rfl) (fun K hK => ?_)
        refine op_appendB _ (.tmp 59) (.tmp 64) (by rfl) w.heap.size _ D 0 c [] d (by rfl) (by rfl) hO2 (HD.out.below hB2) (by simp; omega) hB2.size ?_
        intro d' D' c' w3 hd3 hd1 hd2 ho3 hg3
        have hb3 : Below wq.heap.size wq w3 := ((Below.refl _ _).alloc (Nat.le_refl _) _).grown hg3 (by simp) (by simp [Value.ownBlock])
        have hB3 := hBq.trans (hb3.mono hBq.size)
        have hP3 := hPq.below hb3
        clear c0 c1 c2 c3 hO2 hB2 hd3 hg3 hb3 hBq hPq
        obtain ⟨c0, c1, c2, c3⟩ := HC.out _ hB3
        refine hK _ _ (by simp [owed, left] <;> (and_intros <;> first | trivial | assumption)) ?_
        clear hK K
        try simp only [List.getElem_toArray, List.getElem_cons_succ, List.getElem_cons_zero, Act.put, List.setIfInBounds_toArray, List.set_cons_zero, List.set_cons_succ]
        refine planE_eff rfl (by rfl) (fun K hK => ?_)
        go_simp
        refine (postSendI aa ab D' c' d' hP3 hB3.size ho3.rb).mono ?_
        rintro e w4 ⟨rfl, hP4, hK4⟩
        have hB4 := hB3.trans hK4.below
        clear c0 c1 c2 c3 hP3 hB3 hK4 ho3
        obtain ⟨c0, c1, c2, c3⟩ := HC.out _ hB4
        refine hK _ _ (by simp [owed, left] <;> (and_intros <;> first | trivial | assumption)) ?_
        clear hK K
        try simp only [List.getElem_toArray, List.getElem_cons_succ, List.getElem_cons_zero, Act.put, List.setIfInBounds_toArray, List.set_cons_zero, List.set_cons_succ]
        refine planE_end ?_
        have hV4 : (sendV V (fun _ => false) 4096 aa ab d').length ≤ k + 1 := by
          unfold sendV
          split
          · simp; omega
          · omega
        clear hd1 hd2 c0 c1 c2 c3
        generalize sendV V (fun _ => false) 4096 aa ab d' = V' at *
        generalize sendErr V (fun _ => false) 4096 aa ab d' = er at *
        go_wp2_with fail
        go_roundw
        case rel => exact ⟨k + 1, V', by omega, by go_num, hV4, hP4, hB4⟩
        case measure => simp [intOf]; omega
      · have hV2 : V.length ≤ 200 := by omega
        go_wp2_with fail
        clear hlt hVk hk
        refine (postLenI hP).mono ?_
        rintro e w3 ⟨rfl, rfl⟩
        by_cases h0 : V.length = 0
        · obtain rfl : V = [] := List.eq_nil_of_length_eq_zero h0
          go_wp2_with fail
          refine (postTwinI 0 hP hB.size (by omega)).mono ?_
          rintro e w4 ⟨rfl, hP4, hK4⟩
          rw [show twinErr [] 4096 0 = 8 from by decide]
          have hB4 := hB.trans hK4.below
          clear hP hB hP4 hK4
          go_wp2_with fail
          go_ret
          exact ⟨rfl, hB4⟩
        · have hn1 : ((V.length : Int) == 0) = false := by simpa using h0
          have hn0 : 0 < V.length := by omega
          have hkm : q % V.length < V.length := Nat.mod_lt _ hn0
          clear h0
          go_wp2_with fail
          obtain ⟨m, hm⟩ : ∃ m, m = q % V.length := ⟨_, rfl⟩
          rw [show ((q : Int) % (V.length : Int)) = ((m : Nat) : Int) from by rw [hm]; simp]
          rw [← hm] at hkm
          clear hm
          obtain ⟨v, hv⟩ : ∃ v, v = V[m] := ⟨_, rfl⟩
          have hat0 : atV V (m : Int) = (v, 0) := by have := atV_first hkm []; rw [List.append_nil] at this; rw [this, hv]
          have Lk := postLookI (m : Int) hP (by omega)
          rw [hat0] at Lk
          have HLK := Lib.hid Lk
          have HAT : Hid (∀ W, atV (V ++ W) (m : Int) = (v, 0)) := Lib.hid fun W => by rw [atV_first hkm W, hv]
          clear Lk hat0 hv
          refine HLK.out.mono ?_
          rintro e w4 ⟨D, c, d, rfl, hd, hd2, ho, hb4⟩
          have hP4 := hP.below hb4
          have hB4 := hB.trans (hb4.mono hB.size)
          have ho4 := ho.base_le (Nat.zero_le _)
          clear hP hB hb4 ho HLK
          go_wp2_with fail
          go_loopw [16] (fun i wr => ∃ k : Nat, k ≤ t ∧ i = .int .i64 (k : Int) ∧ PI w.heap.size wr g (V ++ List.replicate k v) (fun _ => false) 4096 ∧ OB wr 0 D c d ∧ Below w.heap.size w wr)
            (fun i _ => t - (intOf i).toNat)
          case atStart => exact ⟨0, Nat.zero_le _, rfl, by simpa using hP4, ho4, hB4⟩
          case round =>
            obtain ⟨k2, hk2, rfl, hP5, ho5, hB5⟩ := hrel
            clear hP4 ho4 hB4
            by_cases hlt : k2 < t
            · have hlt' : (k2 : Int) < (t : Int) := by omega
              go_wp2_with fail
              refine (postTwinI (m : Int) hP5 hB5.size (by omega)).mono ?_
              rintro e w6 ⟨rfl, hP6, hK6⟩
              have ht0 : twinErr (V ++ List.replicate k2 v) 4096 (m : Int) = 0 := by
                rw [twinErr, if_pos (by simp; omega), if_neg (by simp; omega)]
              rw [ht0]
              rw [if_pos ht0, HAT.out, List.append_assoc, ← List.replicate_succ'] at hP6
              have ho6 := ho5.tm hK6.tm (by simp [badP])
              have hB6 := hB5.trans hK6.below
              clear ht0 hP5 ho5 hB5 hK6
              go_wp2_with fail
              go_roundw
              case rel => exact ⟨k2 + 1, by omega, by go_num, hP6, ho6, hB6⟩
              case measure => simp [intOf]; omega
            · obtain rfl : k2 = t := by omega
              have hlt' : ¬ (k2 : Int) < (k2 : Int) := by omega
              go_wp2_with fail
              clear hlt hlt'
              obtain ⟨V3, hV3⟩ : ∃ V3, V3 = V ++ List.replicate k2 v := ⟨_, rfl⟩
              have hl3 : V3.length = V.length + k2 := by rw [hV3]; simp
              have HL3 := Lib.hid hl3
              have hl3a : V3.length ≤ V.length + k2 := by omega
              have hl3b : V.length + k2 ≤ V3.length := by omega
              have HA3 : Hid (∀ i : Nat, V.length ≤ i → i < V3.length → atV V3 (i : Int) = (v, 0)) := Lib.hid fun i h1 h2 => by rw [hV3]; exact atV_last h1 (by omega)
              rw [← hV3] at hP5
              clear hV3 hl3 HAT
              go_loopw [17] (fun i wr => ∃ k : Nat, V.length ≤ k ∧ k ≤ V3.length ∧ i = .int .i64 (k : Int) ∧ PI w.heap.size wr g V3 (fun _ => false) 4096 ∧ OB wr 0 D c d ∧ Below w.heap.size w wr)
                (fun i _ => V3.length - (intOf i).toNat)
              case atStart => exact ⟨V.length, Nat.le_refl _, by omega, rfl, hP5, ho5, hB5⟩
              case round =>
                obtain ⟨k3, hk3, hk3', rfl, hP6, ho6, hB6⟩ := hrel
                clear hP5 ho5 hB5
                go_wp2_with fail
                refine (postLenI hP6).mono ?_
                rintro e w7 ⟨rfl, rfl⟩
                by_cases hlt : k3 < V3.length
                · have hat3 := HA3.out k3 hk3 hlt
                  have Lk := postLookI (k3 : Int) hP6 (by omega)
                  rw [hat3] at Lk
                  have HLK := Lib.hid Lk
                  clear Lk hat3
                  go_wp2_with fail
                  refine HLK.out.mono ?_
                  rintro e w8 ⟨D', c', d', rfl, hd', hd2', ho', hb8⟩
                  have hP8 := hP6.below hb8
                  have hB8 := hB6.trans (hb8.mono hB6.size)
                  have ho8 := ho6.below hb8
                  have hc1 : (convert 33 9 (.slice D' d'.length c')).run Try.prog w8 = .ok (.string ⟨v.2.2.toArray⟩) w8 := by rw [convB c' ho'.rb, hd'.out]
                  have hc2 : (convert 33 9 (.slice D d.length c)).run Try.prog w8 = .ok (.string ⟨v.2.2.toArray⟩) w8 := by rw [convB c ho8.rb, hd.out]
                  clear hP6 hB6 hb8 ho6 ho' HLK
                  go_wp2_with fail
                  clear hc1 hc2
                  go_roundw
                  case rel => exact ⟨k3 + 1, by omega, by omega, by go_num, hP8, ho8, hB8⟩
                  case measure => simp [intOf]; omega
                · go_wp2_with fail
                  refine (postLenI hP6).mono ?_
                  rintro e w8 ⟨rfl, rfl⟩
                  have hle : (V3.length : Int) = (V.length : Int) + (k2 : Int) := by omega
                  rw [hle]
                  clear hlt hle
                  go_wp2_with fail
                  have HQ : Hid (PI w.heap.size wr g V3 (fun _ => false) 4096) := Lib.hid hP6
                  go_loopg [22] V3.length (fun gk x wx => ∃ V4 : List Val, V4.length ≤ gk ∧ V4.length ≤ 4096 ∧ PI w.heap.size wx g V4 (fun _ => false) 4096 ∧ Below w.heap.size w wx)
                  case atStart => exact ⟨V3, Nat.le_refl _, by omega, hP6, hB6⟩
                  case round =>
                    obtain ⟨V4, hg4, hl4, hP7, hB7⟩ := hrel
                    clear HQ hP6 hB6
                    go_wp2_with fail
                    refine (postLenI hP7).mono ?_
                    rintro e w9 ⟨rfl, rfl⟩
                    by_cases hz : 0 < V4.length
                    · obtain ⟨z, hz'⟩ : ∃ z, V4.length = z + 1 := ⟨V4.length - 1, by omega⟩
                      have hz1 : (0 : Int) < (V4.length : Int) := by omega
                      have HZ := Lib.hid hz'
                      have hz2 : z + 1 ≤ gk := by omega
                      have hz3 : z ≤ 4095 := by omega
                      have T := postTakeI (z : Int) hP7 hB7.size (by omega)
                      unfold TakeI at T
                      have hat4 : (atV V4 (z : Int)).2 = 0 := by rw [atV, if_pos (by omega)]
                      rw [hat4, if_pos rfl, Int.toNat_natCast] at T
                      generalize atV V4 (z : Int) = q4 at T
                      have HT := Lib.hid T
                      have HP7 := Lib.hid hP7
                      clear T hat4 hz' hP7
                      go_wp2_with fail
                      refine (postLenI HP7.out).mono ?_
                      rintro e w9 ⟨rfl, rfl⟩
                      rw [HZ.out]
                      go_wp2_with fail
                      refine HT.out.mono ?_
                      rintro e w9 ⟨D9, c9, d9, rfl, hd9, hd92, ho9, hP9, hK9⟩
                      have hB9 := hB7.trans hK9.below
                      have hl9 : (V4.eraseIdx z).length ≤ z := by rw [List.length_eraseIdx, HZ.out]; split <;> omega
                      clear hd9 hd92 ho9 hK9 hB7
                      go_wp2_with fail
                      go_roundg z
                      case rel => exact ⟨V4.eraseIdx z, hl9, by omega, hP9, hB9⟩
                      case measure => omega
                    · go_wp2_with fail
                      go_ret
                      exact ⟨rfl, hB7⟩
end Go.Proofs.Ytihmnkkhccihpaa
