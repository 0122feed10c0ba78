/- The walk of ClockDrift. -/
import Derived.Test.YtekkcbonkjdgeaaNearNum
namespace Go.Proofs.Ytekkcbonkjdgeaa
open Go.RowKit

set_option maxRecDepth 20000 in
set_option maxHeartbeats 16000000 in
theorem walkClockDrift (rho : Int) (X : Option Addr) (cx : Nat) (L : List (List Fv)) (b : Nat) (w : World) (h1 : I64 rho) (hX : RS w X 4 (L.map (·.map Fv.val))) (hL : L.length ≤ 9223372036854775807) (hR : ∀ r ∈ L, rowOk w actK9 r) (hb8 : b ≤ 255) :
    Calls Try.prog 6 #[.int .i64 rho, .slice X L.length cx, .int .u8 (b : Int)] w (Yes w) := by
  have S := Lib.hid clockAnswers
  have HX := Lib.hid hX
  have HR := Lib.hid hR
  clear hX hR h1
  cases hno : newOk 3 2 rho
  · have N := Lib.hid (clockNew_bad 3 2 rho w hno)
    clear hno
    go_enter Try.func6, Try.ntmps6
    go_wp2_with fail
    refine N.out.mono ?_
    rintro e w1 ⟨rfl, rfl⟩
    go_wp2_with fail
    refine (S.out _).mono ?_
    rintro e w2 ⟨rfl, hb2⟩
    go_wp2_with fail
    refine (S.out _).mono ?_
    rintro e w3 ⟨rfl, hb3⟩
    have hB := hb2.trans (hb3.mono hb2.size)
    clear hb2 hb3
    go_wp2_with fail
    go_ret
    exact ⟨rfl, hB⟩
  · have N := Lib.hid (clockNew 3 2 rho w hno)
    have hrho : 0 ≤ rho ∧ rho ≤ 500000 := by
      have : (1 ≤ (3 : Int) ∧ (3 : Int) ≤ 16) ∧ (0 ≤ (2 : Int) ∧ (2 : Int) ≤ 16) ∧ 0 ≤ rho ∧ rho ≤ 500000 := by simpa [newOk] using hno
      omega
    have HFIT : Hid (∀ (s : Clk) (r0 : Int) (A : List Int) (m j : Nat) (a : Int), Near s rho r0 A m → m ≤ 100 → A[j]? = some a → ((0 ≤ (s.T (endAt 3 j) - a) * (1000000 + rho) ∧ (s.T (endAt 3 j) - a) * (1000000 + rho) ≤ 225000000000000) ∧ (0 ≤ (s.real - r0) * (1000000 + rho) ∧ (s.real - r0) * (1000000 + rho) ≤ 150000000000000))) :=
      Lib.hid fun s r0 A m j a h hm ha => h.fits hrho.1 hrho.2 hm ha
    have HPASS : Hid (∀ (s : Clk) (r0 k : Int) (A : List Int) (m : Nat) (d : Nat), Near s rho r0 A m → Calm3 s rho → k ≤ 1000000 → passE s k d = 0 → Near (passS s k d) rho r0 A (m + 1)) := Lib.hid fun s r0 k A m d h hc hk hp => h.pass hc.rate hrho.1 hrho.2 hk hp
    have HT0 := Lib.hid (Calm3.new rho)
    obtain ⟨hr1, hr2⟩ := hrho
    clear hno
    go_enter Try.func6, Try.ntmps6
    go_wp2_with fail
    refine N.out.mono ?_
    rintro e w1 ⟨g, rfl, hP1, hb1⟩
    go_wp2_with fail
    refine (S.out _).mono ?_
    rintro e w2 ⟨rfl, hb2⟩
    have hP2 := hP1.below hb2
    have hB2 := hb1.trans (hb2.mono hb1.size)
    clear hb1 hb2 hP1 N
    go_wp2_with fail
    have hA1 : Five (w2.alloc (.cells #[.int .i64 0, .int .i64 0, .int .i64 0, .int .i64 0, .int .i64 0] 44)) w2.heap.size [0, 0, 0, 0, 0] := ⟨Blk.new w2 #[.int .i64 0, .int .i64 0, .int .i64 0, .int .i64 0, .int .i64 0] 44, rfl⟩
    have hal1 : Below w2.heap.size w2 (w2.alloc (.cells #[.int .i64 0, .int .i64 0, .int .i64 0, .int .i64 0, .int .i64 0] 44)) := (Below.refl _ _).alloc (Nat.le_refl _) _
    have hsz : (w2.alloc (.cells #[.int .i64 0, .int .i64 0, .int .i64 0, .int .i64 0, .int .i64 0] 44)).heap.size = w2.heap.size + 1 := by simp
    generalize w2.alloc (.cells #[.int .i64 0, .int .i64 0, .int .i64 0, .int .i64 0, .int .i64 0] 44) = wa at *
    have hal2 : Below wa.heap.size wa (wa.alloc (.cells #[.int .i64 1, .int .i64 2, .int .i64 3, .int .i64 (-1), .int .i64 (-2)] 3)) := (Below.refl _ _).alloc (Nat.le_refl _) _
    have hE3 := Blk.new wa #[.int .i64 1, .int .i64 2, .int .i64 3, .int .i64 (-1), .int .i64 (-2)] 3
    rw [hsz] at hE3
    have hA3 := hA1.kept hal2
    have hP3 := (hP2.below hal1).below hal2
    have hBa := hB2.trans (hal1.mono hB2.size)
    have hB3 := hBa.trans (hal2.mono hBa.size)
    have HAB := Lib.hid hB2.size
    clear hA1 hal1 hal2 hBa hsz hP2 hB2
    generalize wa.alloc (.cells #[.int .i64 1, .int .i64 2, .int .i64 3, .int .i64 (-1), .int .i64 (-2)] 3) = w3 at *
    generalize w2.heap.size = ab at *
    go_loopw [10, 12] (fun r i wr => ∃ (k : Nat) (s : Clk) (r0 : Int) (A : List Int), k ≤ L.length ∧ k ≤ 100 ∧ i = .int .i64 (k : Int) ∧ r = .int .i64 r0 ∧ CI w.heap.size wr g s ∧ Five wr ab A ∧ Blk wr (ab + 1) 3 #[.int .i64 1, .int .i64 2, .int .i64 3, .int .i64 (-1), .int .i64 (-2)] ∧ Hid (Calm3 s rho) ∧ Hid (b < k → Near s rho r0 A k) ∧ Below w.heap.size w wr)
      (fun _ i _ => L.length - (intOf i).toNat)
    case atStart => exact ⟨0, _, 0, _, Nat.zero_le _, Nat.zero_le _, rfl, rfl, hP3, hA3, hE3, HT0, Lib.hid (fun h => absurd h (by omega)), hB3⟩
    case round =>
      obtain ⟨k, s, r0, A, hk, hk2, rfl, rfl, hP, hA, hE, hT, hN, hB⟩ := hrel
      clear hP3 hB3 hA3 hE3
      by_cases hlt : k < L.length
      · by_cases hlt2 : k < 100
        · obtain ⟨xb, off, rfl, _, _⟩ := (HX.out.below hB).row (i := k) (by simpa using hlt)
          obtain ⟨ak, ax, an, d, hrow, _, hix, hin, hd⟩ := act_row9 (HR.out L[k] (List.getElem_mem hlt))
          have HC : Hid (∀ w', Below w.heap.size w w' → w'.cell? ⟨xb, off + k * 4, none⟩ = some (.int .i64 ak) ∧ w'.cell? ⟨xb, off + k * 4 + 1, none⟩ = some (.int .i64 ax) ∧ w'.cell? ⟨xb, off + k * 4 + 2, none⟩ = some (.int .i64 an) ∧ w'.cell? ⟨xb, off + k * 4 + 3, none⟩ = some (.int .u64 (d : Int))) :=
            Lib.hid fun w' hw' => act_cells9 (HX.out.below hw') (by rw [List.getElem?_eq_getElem hlt, hrow])
          clear hrow hix hin
          rcases Nat.lt_trichotomy k b with hkb | hkb | hkb
          · clear hN
            by_cases hbig : 1000000 < an
            · go_wp2_with fail
              refine wp_region_planE_gen (by kernel_rfl) [(0, none), (1, none), (2, none), (3, none), (4, none), (5, none), (6, none), (7, none), (8, none), (9, none), (10, none), (11, none), (12, none), (13, none), (14, none), (15, none), (16, none), (17, none), (18, none), (19, none), (20, none)] (by kernel_rfl) (by kernel_rfl) (by decide) ?_
              intro wq hwq
              have hBq : Below wr.heap.size wr wq := by rw [hwq]; exact (Below.refl _ _).drew
              have hPq := hP.below hBq
              have hAq := hA.kept hBq
              have hEq := hE.kept hBq
              have hBw := hB.trans (hBq.mono hB.size)
              obtain ⟨c0, c1, c2, c3⟩ := HC.out wq hBw
              clear hwq hBq hP hB hA hE
              iterate 4 (refine planE_pure (v := ?_) rfl (by rfl) (fun w' => ?_) ?_; rotate_left; (focus (simp only [List.getElem_toArray, List.getElem_cons_succ, List.getElem_cons_zero]; go_simp; first | with_reducible rfl | (simp (disch := omega) only [if_pos, if_neg, Result.andThen_ok]; try with_reducible rfl) | skip)); try simp only [List.getElem_toArray, List.getElem_cons_succ, List.getElem_cons_zero, Act.put, List.setIfInBounds_toArray, List.set_cons_zero, List.set_cons_succ])
              refine planE_cells (v := ?_) [(⟨xb, off + k * 4 + 2, none⟩, .int .i64 an)] (by simp; and_intros <;> assumption) rfl (by rfl) (fun w' hw' => ?_) ?_; rotate_left; (focus (simp only [List.forall_mem_cons, List.not_mem_nil, false_imp_iff, implies_true, and_true] at hw'; simp only [List.getElem_toArray, List.getElem_cons_succ, List.getElem_cons_zero]; go_simp; first | with_reducible rfl | (simp (disch := omega) only [if_pos, if_neg, Result.andThen_ok]; try with_reducible rfl) | skip)); try simp only [List.getElem_toArray, List.getElem_cons_succ, List.getElem_cons_zero, Act.put, List.setIfInBounds_toArray, List.set_cons_zero, List.set_cons_succ]
              iterate 2 (refine planE_pure (v := ?_) rfl (by rfl) (fun w' => ?_) ?_; rotate_left; (focus (simp only [List.getElem_toArray, List.getElem_cons_succ, List.getElem_cons_zero]; go_simp; first | with_reducible rfl | (simp (disch := omega) only [if_pos, if_neg, Result.andThen_ok]; try with_reducible rfl) | skip)); try simp only [List.getElem_toArray, List.getElem_cons_succ, List.getElem_cons_zero, Act.put, List.setIfInBounds_toArray, List.set_cons_zero, List.set_cons_succ])
              refine planE_skip rfl (by rfl) ?_
              try simp only [List.getElem_toArray, List.getElem_cons_succ, List.getElem_cons_zero, Act.put, List.setIfInBounds_toArray, List.set_cons_zero, List.set_cons_succ]
              refine planE_skip rfl (by rfl) ?_
              try simp only [List.getElem_toArray, List.getElem_cons_succ, List.getElem_cons_zero, Act.put, List.setIfInBounds_toArray, List.set_cons_zero, List.set_cons_succ]
              refine planE_skip rfl (by rfl) ?_
              try simp only [List.getElem_toArray, List.getElem_cons_succ, List.getElem_cons_zero, Act.put, List.setIfInBounds_toArray, List.set_cons_zero, List.set_cons_succ]
              refine planE_skip rfl (by rfl) ?_
              try simp only [List.getElem_toArray, List.getElem_cons_succ, List.getElem_cons_zero, Act.put, List.setIfInBounds_toArray, List.set_cons_zero, List.set_cons_succ]
              refine planE_skip rfl (by rfl) ?_
              try simp only [List.getElem_toArray, List.getElem_cons_succ, List.getElem_cons_zero, Act.put, List.setIfInBounds_toArray, List.set_cons_zero, List.set_cons_succ]
              refine planE_skip rfl (by rfl) ?_
              try simp only [List.getElem_toArray, List.getElem_cons_succ, List.getElem_cons_zero, Act.put, List.setIfInBounds_toArray, List.set_cons_zero, List.set_cons_succ]
              refine planE_skip rfl (by rfl) ?_
              try simp only [List.getElem_toArray, List.getElem_cons_succ, List.getElem_cons_zero, Act.put, List.setIfInBounds_toArray, List.set_cons_zero, List.set_cons_succ]
              refine planE_skip rfl (by rfl) ?_
              try simp only [List.getElem_toArray, List.getElem_cons_succ, List.getElem_cons_zero, Act.put, List.setIfInBounds_toArray, List.set_cons_zero, List.set_cons_succ]
              refine planE_skip rfl (by rfl) ?_
              try simp only [List.getElem_toArray, List.getElem_cons_succ, List.getElem_cons_zero, Act.put, List.setIfInBounds_toArray, List.set_cons_zero, List.set_cons_succ]
              refine planE_skip rfl (by rfl) ?_
              try simp only [List.getElem_toArray, List.getElem_cons_succ, List.getElem_cons_zero, Act.put, List.setIfInBounds_toArray, List.set_cons_zero, List.set_cons_succ]
              refine planE_skip rfl (by rfl) ?_
              try simp only [List.getElem_toArray, List.getElem_cons_succ, List.getElem_cons_zero, Act.put, List.setIfInBounds_toArray, List.set_cons_zero, List.set_cons_succ]
              refine planE_skip rfl (by rfl) ?_
              try simp only [List.getElem_toArray, List.getElem_cons_succ, List.getElem_cons_zero, Act.put, List.setIfInBounds_toArray, List.set_cons_zero, List.set_cons_succ]
              refine planE_skip rfl (by rfl) ?_
              try simp only [List.getElem_toArray, List.getElem_cons_succ, List.getElem_cons_zero, Act.put, List.setIfInBounds_toArray, List.set_cons_zero, List.set_cons_succ]
              iterate 1 (refine planE_pure (v := ?_) rfl (by rfl) (fun w' => ?_) ?_; rotate_left; (focus (simp only [List.getElem_toArray, List.getElem_cons_succ, List.getElem_cons_zero]; go_simp; first | with_reducible rfl | (simp (disch := omega) only [if_pos, if_neg, Result.andThen_ok]; try with_reducible rfl) | skip)); try simp only [List.getElem_toArray, List.getElem_cons_succ, List.getElem_cons_zero, Act.put, List.setIfInBounds_toArray, List.set_cons_zero, List.set_cons_succ])
              refine planE_end ?_
              clear c0 c1 c2 c3
              go_wp2_with fail
              go_roundw
              case rel => exact ⟨k + 1, s, _, A, by omega, by omega, by go_num, rfl, hPq, hAq, hEq, hT, Lib.hid (fun h => absurd h (by omega)), hBw⟩
              case measure => simp [intOf]; omega
            · have hsm : decide (1000000 < an) = false := decide_eq_false hbig
              rcases passE_ways s an d with he | ⟨er, her, he, hs⟩
              · have HT2 := Lib.hid (hT.out.pass (k := an) (d := d))
                obtain ⟨s2, hs2⟩ : ∃ s2, s2 = passS s an d := ⟨_, rfl⟩
                rw [← hs2] at HT2
                have HP : Hid (∀ w', CI w.heap.size w' g s → w.heap.size ≤ w'.heap.size → Calls Try.prog 28 #[.pointer (some ⟨g, 0, none⟩), .int .i64 an, .int .u64 (d : Int)] w' fun e w'' => e = .returned (.int .i64 0) ∧ CI w.heap.size w'' g s2 ∧ Keep badC w.heap.size w' w'') := Lib.hid fun w' h hn => by
                  have := clockPass an d h hn hd
                  rw [he, ← hs2] at this
                  exact this
                clear hs2 he hbig
                go_wp2_with fail
                refine wp_region_planE_gen (by kernel_rfl) [(0, none), (1, none), (2, none), (3, none), (4, none), (5, none), (6, none), (7, none), (8, none), (9, none), (10, none), (11, none), (12, none), (13, none), (14, none), (15, none), (16, none), (17, none), (18, some [6, 7, 12, 17]), (19, none), (20, none)] (by kernel_rfl) (by kernel_rfl) (by decide) ?_
                intro wq hwq
                have hBq : Below wr.heap.size wr wq := by rw [hwq]; exact (Below.refl _ _).drew
                have hPq := hP.below hBq
                have hAq := hA.kept hBq
                have hEq := hE.kept hBq
                have hBw := hB.trans (hBq.mono hB.size)
                obtain ⟨c0, c1, c2, c3⟩ := HC.out wq hBw
                clear hwq hBq hP hB hA hE
                iterate 4 (refine planE_pure (v := ?_) rfl (by rfl) (fun w' => ?_) ?_; rotate_left; (focus (simp only [List.getElem_toArray, List.getElem_cons_succ, List.getElem_cons_zero]; go_simp; first | with_reducible rfl | (simp (disch := omega) only [if_pos, if_neg, Result.andThen_ok]; try with_reducible rfl) | skip)); try simp only [List.getElem_toArray, List.getElem_cons_succ, List.getElem_cons_zero, Act.put, List.setIfInBounds_toArray, List.set_cons_zero, List.set_cons_succ])
                refine planE_cells (v := ?_) [(⟨xb, off + k * 4 + 2, none⟩, .int .i64 an)] (by simp; and_intros <;> assumption) rfl (by rfl) (fun w' hw' => ?_) ?_; rotate_left; (focus (simp only [List.forall_mem_cons, List.not_mem_nil, false_imp_iff, implies_true, and_true] at hw'; simp only [List.getElem_toArray, List.getElem_cons_succ, List.getElem_cons_zero]; go_simp; first | with_reducible rfl | (simp (disch := omega) only [if_pos, if_neg, Result.andThen_ok]; try with_reducible rfl) | skip)); try simp only [List.getElem_toArray, List.getElem_cons_succ, List.getElem_cons_zero, Act.put, List.setIfInBounds_toArray, List.set_cons_zero, List.set_cons_succ]
                iterate 7 (refine planE_pure (v := ?_) rfl (by rfl) (fun w' => ?_) ?_; rotate_left; (focus (simp only [List.getElem_toArray, List.getElem_cons_succ, List.getElem_cons_zero]; go_simp; first | with_reducible rfl | (simp (disch := omega) only [if_pos, if_neg, Result.andThen_ok]; try with_reducible rfl) | skip)); try simp only [List.getElem_toArray, List.getElem_cons_succ, List.getElem_cons_zero, Act.put, List.setIfInBounds_toArray, List.set_cons_zero, List.set_cons_succ])
                refine planE_cells (v := ?_) [(⟨xb, off + k * 4 + 2, none⟩, .int .i64 an)] (by simp; and_intros <;> assumption) rfl (by rfl) (fun w' hw' => ?_) ?_; rotate_left; (focus (simp only [List.forall_mem_cons, List.not_mem_nil, false_imp_iff, implies_true, and_true] at hw'; simp only [List.getElem_toArray, List.getElem_cons_succ, List.getElem_cons_zero]; go_simp; first | with_reducible rfl | (simp (disch := omega) only [if_pos, if_neg, Result.andThen_ok]; try with_reducible rfl) | skip)); try simp only [List.getElem_toArray, List.getElem_cons_succ, List.getElem_cons_zero, Act.put, List.setIfInBounds_toArray, List.set_cons_zero, List.set_cons_succ]
                iterate 4 (refine planE_pure (v := ?_) rfl (by rfl) (fun w' => ?_) ?_; rotate_left; (focus (simp only [List.getElem_toArray, List.getElem_cons_succ, List.getElem_cons_zero]; go_simp; first | with_reducible rfl | (simp (disch := omega) only [if_pos, if_neg, Result.andThen_ok]; try with_reducible rfl) | skip)); try simp only [List.getElem_toArray, List.getElem_cons_succ, List.getElem_cons_zero, Act.put, List.setIfInBounds_toArray, List.set_cons_zero, List.set_cons_succ])
                refine planE_cells (v := ?_) [(⟨xb, off + k * 4 + 3, none⟩, .int .u64 (d : Int))] (by simp; and_intros <;> assumption) rfl (by rfl) (fun w' hw' => ?_) ?_; rotate_left; (focus (simp only [List.forall_mem_cons, List.not_mem_nil, false_imp_iff, implies_true, and_true] at hw'; simp only [List.getElem_toArray, List.getElem_cons_succ, List.getElem_cons_zero]; go_simp; first | with_reducible rfl | (simp (disch := omega) only [if_pos, if_neg, Result.andThen_ok]; try with_reducible rfl) | skip)); try simp only [List.getElem_toArray, List.getElem_cons_succ, List.getElem_cons_zero, Act.put, List.setIfInBounds_toArray, List.set_cons_zero, List.set_cons_succ]
                refine planE_eff rfl (by rfl) (fun K hK => ?_)
                go_simp
                refine (HP.out _ hPq hBw.size).mono ?_
                rintro e w4 ⟨rfl, hP4, hk4⟩
                have hA4 := hAq.tm hk4.tm
                have hE4 := hEq.tm hk4.tm (by simp [badC])
                have hB4 := hBw.trans hk4.below
                clear c0 c1 c2 c3 hPq hBw hk4 hAq hEq
                obtain ⟨c0, c1, c2, c3⟩ := HC.out w4 hB4
                refine hK _ _ (by simp [owed, left] <;> (and_intros <;> first | trivial | assumption)) ?_
                clear hK K
                try simp only [List.getElem_toArray, List.getElem_cons_succ, List.getElem_cons_zero, Act.put, List.setIfInBounds_toArray, List.set_cons_zero, List.set_cons_succ]
                iterate 2 (refine planE_pure (v := ?_) rfl (by rfl) (fun w' => ?_) ?_; rotate_left; (focus (simp only [List.getElem_toArray, List.getElem_cons_succ, List.getElem_cons_zero]; go_simp; first | with_reducible rfl | (simp (disch := omega) only [if_pos, if_neg, Result.andThen_ok]; try with_reducible rfl) | skip)); try simp only [List.getElem_toArray, List.getElem_cons_succ, List.getElem_cons_zero, Act.put, List.setIfInBounds_toArray, List.set_cons_zero, List.set_cons_succ])
                refine planE_end ?_
                clear c0 c1 c2 c3
                go_wp2_with fail
                go_roundw
                case rel => exact ⟨k + 1, s2, _, A, by omega, by omega, by go_num, rfl, hP4, hA4, hE4, HT2, Lib.hid (fun h => absurd h (by omega)), hB4⟩
                case measure => simp [intOf]; omega
              · have HP : Hid (∀ w', CI w.heap.size w' g s → w.heap.size ≤ w'.heap.size → Calls Try.prog 28 #[.pointer (some ⟨g, 0, none⟩), .int .i64 an, .int .u64 (d : Int)] w' fun e w'' => e = .returned (.int .i64 er) ∧ CI w.heap.size w'' g s ∧ Keep badC w.heap.size w' w'') := Lib.hid fun w' h hn => by
                  have := clockPass an d h hn hd
                  rw [he, hs] at this
                  exact this
                clear he hs hbig
                rcases her with rfl | rfl
                all_goals
                  go_wp2_with fail
                  refine wp_region_planE_gen (by kernel_rfl) [(0, none), (1, none), (2, none), (3, none), (4, none), (5, none), (6, none), (7, none), (8, none), (9, none), (10, none), (11, none), (12, none), (13, none), (14, none), (15, none), (16, none), (17, none), (18, some [6, 7, 12, 17]), (19, none), (20, none)] (by kernel_rfl) (by kernel_rfl) (by decide) ?_
                  intro wq hwq
                  have hBq : Below wr.heap.size wr wq := by rw [hwq]; exact (Below.refl _ _).drew
                  have hPq := hP.below hBq
                  have hAq := hA.kept hBq
                  have hEq := hE.kept hBq
                  have hBw := hB.trans (hBq.mono hB.size)
                  obtain ⟨c0, c1, c2, c3⟩ := HC.out wq hBw
                  clear hwq hBq hP hB hA hE
                  iterate 4 (refine planE_pure (v := ?_) rfl (by rfl) (fun w' => ?_) ?_; rotate_left; (focus (simp only [List.getElem_toArray, List.getElem_cons_succ, List.getElem_cons_zero]; go_simp; first | with_reducible rfl | (simp (disch := omega) only [if_pos, if_neg, Result.andThen_ok]; try with_reducible rfl) | skip)); try simp only [List.getElem_toArray, List.getElem_cons_succ, List.getElem_cons_zero, Act.put, List.setIfInBounds_toArray, List.set_cons_zero, List.set_cons_succ])
                  refine planE_cells (v := ?_) [(⟨xb, off + k * 4 + 2, none⟩, .int .i64 an)] (by simp; and_intros <;> assumption) rfl (by rfl) (fun w' hw' => ?_) ?_; rotate_left; (focus (simp only [List.forall_mem_cons, List.not_mem_nil, false_imp_iff, implies_true, and_true] at hw'; simp only [List.getElem_toArray, List.getElem_cons_succ, List.getElem_cons_zero]; go_simp; first | with_reducible rfl | (simp (disch := omega) only [if_pos, if_neg, Result.andThen_ok]; try with_reducible rfl) | skip)); try simp only [List.getElem_toArray, List.getElem_cons_succ, List.getElem_cons_zero, Act.put, List.setIfInBounds_toArray, List.set_cons_zero, List.set_cons_succ]
                  iterate 7 (refine planE_pure (v := ?_) rfl (by rfl) (fun w' => ?_) ?_; rotate_left; (focus (simp only [List.getElem_toArray, List.getElem_cons_succ, List.getElem_cons_zero]; go_simp; first | with_reducible rfl | (simp (disch := omega) only [if_pos, if_neg, Result.andThen_ok]; try with_reducible rfl) | skip)); try simp only [List.getElem_toArray, List.getElem_cons_succ, List.getElem_cons_zero, Act.put, List.setIfInBounds_toArray, List.set_cons_zero, List.set_cons_succ])
                  refine planE_cells (v := ?_) [(⟨xb, off + k * 4 + 2, none⟩, .int .i64 an)] (by simp; and_intros <;> assumption) rfl (by rfl) (fun w' hw' => ?_) ?_; rotate_left; (focus (simp only [List.forall_mem_cons, List.not_mem_nil, false_imp_iff, implies_true, and_true] at hw'; simp only [List.getElem_toArray, List.getElem_cons_succ, List.getElem_cons_zero]; go_simp; first | with_reducible rfl | (simp (disch := omega) only [if_pos, if_neg, Result.andThen_ok]; try with_reducible rfl) | skip)); try simp only [List.getElem_toArray, List.getElem_cons_succ, List.getElem_cons_zero, Act.put, List.setIfInBounds_toArray, List.set_cons_zero, List.set_cons_succ]
                  iterate 4 (refine planE_pure (v := ?_) rfl (by rfl) (fun w' => ?_) ?_; rotate_left; (focus (simp only [List.getElem_toArray, List.getElem_cons_succ, List.getElem_cons_zero]; go_simp; first | with_reducible rfl | (simp (disch := omega) only [if_pos, if_neg, Result.andThen_ok]; try with_reducible rfl) | skip)); try simp only [List.getElem_toArray, List.getElem_cons_succ, List.getElem_cons_zero, Act.put, List.setIfInBounds_toArray, List.set_cons_zero, List.set_cons_succ])
                  refine planE_cells (v := ?_) [(⟨xb, off + k * 4 + 3, none⟩, .int .u64 (d : Int))] (by simp; and_intros <;> assumption) rfl (by rfl) (fun w' hw' => ?_) ?_; rotate_left; (focus (simp only [List.forall_mem_cons, List.not_mem_nil, false_imp_iff, implies_true, and_true] at hw'; simp only [List.getElem_toArray, List.getElem_cons_succ, List.getElem_cons_zero]; go_simp; first | with_reducible rfl | (simp (disch := omega) only [if_pos, if_neg, Result.andThen_ok]; try with_reducible rfl) | skip)); try simp only [List.getElem_toArray, List.getElem_cons_succ, List.getElem_cons_zero, Act.put, List.setIfInBounds_toArray, List.set_cons_zero, List.set_cons_succ]
                  refine planE_eff rfl (by rfl) (fun K hK => ?_)
                  go_simp
                  refine (HP.out _ hPq hBw.size).mono ?_
                  rintro e w4 ⟨rfl, hP4, hk4⟩
                  have hA4 := hAq.tm hk4.tm
                  have hE4 := hEq.tm hk4.tm (by simp [badC])
                  have hB4 := hBw.trans hk4.below
                  clear c0 c1 c2 c3 hPq hBw hk4 hAq hEq
                  obtain ⟨c0, c1, c2, c3⟩ := HC.out w4 hB4
                  refine hK _ _ (by simp [owed, left] <;> (and_intros <;> first | trivial | assumption)) ?_
                  clear hK K
                  try simp only [List.getElem_toArray, List.getElem_cons_succ, List.getElem_cons_zero, Act.put, List.setIfInBounds_toArray, List.set_cons_zero, List.set_cons_succ]
                  iterate 2 (refine planE_pure (v := ?_) rfl (by rfl) (fun w' => ?_) ?_; rotate_left; (focus (simp only [List.getElem_toArray, List.getElem_cons_succ, List.getElem_cons_zero]; go_simp; first | with_reducible rfl | (simp (disch := omega) only [if_pos, if_neg, Result.andThen_ok]; try with_reducible rfl) | skip)); try simp only [List.getElem_toArray, List.getElem_cons_succ, List.getElem_cons_zero, Act.put, List.setIfInBounds_toArray, List.set_cons_zero, List.set_cons_succ])
                  refine planE_end ?_
                  clear c0 c1 c2 c3
                  go_wp2_with fail
                  go_roundw
                  case rel => exact ⟨k + 1, s, _, A, by omega, by omega, by go_num, rfl, hP4, hA4, hE4, hT, Lib.hid (fun h => absurd h (by omega)), hB4⟩
                  case measure => simp [intOf]; omega
          · clear hN
            subst hkb
            go_wp2_with fail
            refine (clockTrue hP).mono ?_
            rintro e w' ⟨rfl, rfl⟩
            go_wp2_with fail
            go_loopw [13] (fun v wr' => ∃ (q : Nat) (A : List Int), q ≤ 5 ∧ v = .int .i64 (q : Int) ∧ CI w.heap.size wr' g s ∧ Five wr' ab A ∧ Blk wr' (ab + 1) 3 #[.int .i64 1, .int .i64 2, .int .i64 3, .int .i64 (-1), .int .i64 (-2)] ∧ Hid (∀ p, p < q → A[p]? = some (s.T (endAt 3 p))) ∧ Below w.heap.size w wr') (fun v _ => 5 - (intOf v).toNat)
            case atStart => exact ⟨0, A, by omega, rfl, hP, hA, hE, Lib.hid (fun p h => absurd h (by omega)), hB⟩
            case round =>
              rename_i wr0 _ _ wr _
              obtain ⟨q, A, hq, rfl, hP2, hA2, hE2, hM, hB2⟩ := hrel
              clear hP hA hE hB
              by_cases h5 : q < 5
              · have ce := ends_cell hE2 h5
                obtain ⟨a, ha, ca⟩ := hA2.cell h5
                have fa := hA2.1.free q
                have NW : Hid (Calls Try.prog 27 #[.pointer (some ⟨g, 0, none⟩), .int .i64 (endAt 3 q)] wr fun e w'' => e = .returned (.tuple #[.int .i64 (s.T (endAt 3 q)), .int .i64 0]) ∧ wr = w'') := by
                  have := clockNow (endAt 3 q) hP2
                  rw [(hT.out.now h5).1, (hT.out.now h5).2] at this
                  exact Lib.hid this
                have HF : Hid (CI w.heap.size (wr.setCell ⟨ab, q, none⟩ (.int .i64 (s.T (endAt 3 q)))) g s ∧ Five (wr.setCell ⟨ab, q, none⟩ (.int .i64 (s.T (endAt 3 q)))) ab (A.set q (s.T (endAt 3 q))) ∧ Blk (wr.setCell ⟨ab, q, none⟩ (.int .i64 (s.T (endAt 3 q)))) (ab + 1) 3 #[.int .i64 1, .int .i64 2, .int .i64 3, .int .i64 (-1), .int .i64 (-2)] ∧ Hid (∀ p, p < q + 1 → (A.set q (s.T (endAt 3 q)))[p]? = some (s.T (endAt 3 p))) ∧ Below w.heap.size w (wr.setCell ⟨ab, q, none⟩ (.int .i64 (s.T (endAt 3 q))))) := Lib.hid ⟨hP2.setFive hA2 q _, hA2.set q _, hE2.setCell_other (a := ⟨ab, q, none⟩) _ (by simp), Lib.hid (fun p hp => by
                  rw [List.getElem?_set]
                  by_cases e : q = p
                  · subst e; rw [if_pos rfl, if_pos (by rw [hA2.2]; exact h5)]
                  · rw [if_neg e]; exact hM.out p (by omega)), below_setCell (p := ⟨ab, q, none⟩) hB2 HAB.out _⟩
                clear hP2 hA2 hE2 hM hB2 ha
                generalize s.T (endAt 3 q) = t at *
                generalize endAt 3 q = en at *
                go_wp2_with fail
                refine NW.out.mono ?_
                rintro e w' ⟨rfl, rfl⟩
                go_wp2_with fail
                go_roundw
                case rel => exact ⟨q + 1, _, by omega, by go_num, HF.out.1, HF.out.2.1, HF.out.2.2.1, HF.out.2.2.2.1, HF.out.2.2.2.2⟩
                case measure => simp [intOf]; omega
              · obtain rfl : q = 5 := by omega
                have HN : Hid (Near s rho s.real A k) := Lib.hid ((Near.zero hP2.ok hT.out hA2.2 hM.out).mono (Nat.zero_le _))
                have hP := hP2
                have hA := hA2
                have hE := hE2
                have hB := hB2
                clear hP2 hA2 hE2 hB2 hM
                by_cases hbig : 1000000 < an
                · go_wp2_with fail
                  refine wp_region_planE_gen (by kernel_rfl) [(0, none), (1, none), (2, none), (3, none), (4, none), (5, none), (6, none), (7, none), (8, none), (9, none), (10, none), (11, none), (12, none), (13, none), (14, none), (15, none), (16, none), (17, none), (18, none), (19, none), (20, none)] (by kernel_rfl) (by kernel_rfl) (by decide) ?_
                  intro wq hwq
                  have hBq : Below wr.heap.size wr wq := by rw [hwq]; exact (Below.refl _ _).drew
                  have hPq := hP.below hBq
                  have hAq := hA.kept hBq
                  have hEq := hE.kept hBq
                  have hBw := hB.trans (hBq.mono hB.size)
                  obtain ⟨c0, c1, c2, c3⟩ := HC.out wq hBw
                  clear hwq hBq hP hB hA hE
                  iterate 4 (refine planE_pure (v := ?_) rfl (by rfl) (fun w' => ?_) ?_; rotate_left; (focus (simp only [List.getElem_toArray, List.getElem_cons_succ, List.getElem_cons_zero]; go_simp; first | with_reducible rfl | (simp (disch := omega) only [if_pos, if_neg, Result.andThen_ok]; try with_reducible rfl) | skip)); try simp only [List.getElem_toArray, List.getElem_cons_succ, List.getElem_cons_zero, Act.put, List.setIfInBounds_toArray, List.set_cons_zero, List.set_cons_succ])
                  refine planE_cells (v := ?_) [(⟨xb, off + k * 4 + 2, none⟩, .int .i64 an)] (by simp; and_intros <;> assumption) rfl (by rfl) (fun w' hw' => ?_) ?_; rotate_left; (focus (simp only [List.forall_mem_cons, List.not_mem_nil, false_imp_iff, implies_true, and_true] at hw'; simp only [List.getElem_toArray, List.getElem_cons_succ, List.getElem_cons_zero]; go_simp; first | with_reducible rfl | (simp (disch := omega) only [if_pos, if_neg, Result.andThen_ok]; try with_reducible rfl) | skip)); try simp only [List.getElem_toArray, List.getElem_cons_succ, List.getElem_cons_zero, Act.put, List.setIfInBounds_toArray, List.set_cons_zero, List.set_cons_succ]
                  iterate 2 (refine planE_pure (v := ?_) rfl (by rfl) (fun w' => ?_) ?_; rotate_left; (focus (simp only [List.getElem_toArray, List.getElem_cons_succ, List.getElem_cons_zero]; go_simp; first | with_reducible rfl | (simp (disch := omega) only [if_pos, if_neg, Result.andThen_ok]; try with_reducible rfl) | skip)); try simp only [List.getElem_toArray, List.getElem_cons_succ, List.getElem_cons_zero, Act.put, List.setIfInBounds_toArray, List.set_cons_zero, List.set_cons_succ])
                  refine planE_skip rfl (by rfl) ?_
                  try simp only [List.getElem_toArray, List.getElem_cons_succ, List.getElem_cons_zero, Act.put, List.setIfInBounds_toArray, List.set_cons_zero, List.set_cons_succ]
                  refine planE_skip rfl (by rfl) ?_
                  try simp only [List.getElem_toArray, List.getElem_cons_succ, List.getElem_cons_zero, Act.put, List.setIfInBounds_toArray, List.set_cons_zero, List.set_cons_succ]
                  refine planE_skip rfl (by rfl) ?_
                  try simp only [List.getElem_toArray, List.getElem_cons_succ, List.getElem_cons_zero, Act.put, List.setIfInBounds_toArray, List.set_cons_zero, List.set_cons_succ]
                  refine planE_skip rfl (by rfl) ?_
                  try simp only [List.getElem_toArray, List.getElem_cons_succ, List.getElem_cons_zero, Act.put, List.setIfInBounds_toArray, List.set_cons_zero, List.set_cons_succ]
                  refine planE_skip rfl (by rfl) ?_
                  try simp only [List.getElem_toArray, List.getElem_cons_succ, List.getElem_cons_zero, Act.put, List.setIfInBounds_toArray, List.set_cons_zero, List.set_cons_succ]
                  refine planE_skip rfl (by rfl) ?_
                  try simp only [List.getElem_toArray, List.getElem_cons_succ, List.getElem_cons_zero, Act.put, List.setIfInBounds_toArray, List.set_cons_zero, List.set_cons_succ]
                  refine planE_skip rfl (by rfl) ?_
                  try simp only [List.getElem_toArray, List.getElem_cons_succ, List.getElem_cons_zero, Act.put, List.setIfInBounds_toArray, List.set_cons_zero, List.set_cons_succ]
                  refine planE_skip rfl (by rfl) ?_
                  try simp only [List.getElem_toArray, List.getElem_cons_succ, List.getElem_cons_zero, Act.put, List.setIfInBounds_toArray, List.set_cons_zero, List.set_cons_succ]
                  refine planE_skip rfl (by rfl) ?_
                  try simp only [List.getElem_toArray, List.getElem_cons_succ, List.getElem_cons_zero, Act.put, List.setIfInBounds_toArray, List.set_cons_zero, List.set_cons_succ]
                  refine planE_skip rfl (by rfl) ?_
                  try simp only [List.getElem_toArray, List.getElem_cons_succ, List.getElem_cons_zero, Act.put, List.setIfInBounds_toArray, List.set_cons_zero, List.set_cons_succ]
                  refine planE_skip rfl (by rfl) ?_
                  try simp only [List.getElem_toArray, List.getElem_cons_succ, List.getElem_cons_zero, Act.put, List.setIfInBounds_toArray, List.set_cons_zero, List.set_cons_succ]
                  refine planE_skip rfl (by rfl) ?_
                  try simp only [List.getElem_toArray, List.getElem_cons_succ, List.getElem_cons_zero, Act.put, List.setIfInBounds_toArray, List.set_cons_zero, List.set_cons_succ]
                  refine planE_skip rfl (by rfl) ?_
                  try simp only [List.getElem_toArray, List.getElem_cons_succ, List.getElem_cons_zero, Act.put, List.setIfInBounds_toArray, List.set_cons_zero, List.set_cons_succ]
                  iterate 1 (refine planE_pure (v := ?_) rfl (by rfl) (fun w' => ?_) ?_; rotate_left; (focus (simp only [List.getElem_toArray, List.getElem_cons_succ, List.getElem_cons_zero]; go_simp; first | with_reducible rfl | (simp (disch := omega) only [if_pos, if_neg, Result.andThen_ok]; try with_reducible rfl) | skip)); try simp only [List.getElem_toArray, List.getElem_cons_succ, List.getElem_cons_zero, Act.put, List.setIfInBounds_toArray, List.set_cons_zero, List.set_cons_succ])
                  refine planE_end ?_
                  clear c0 c1 c2 c3
                  go_wp2_with fail
                  go_roundw
                  case rel => exact ⟨k + 1, s, _, A, by omega, by omega, by go_num, rfl, hPq, hAq, hEq, hT, Lib.hid (fun _ => HN.out.mono (by omega)), hBw⟩
                  case measure => simp [intOf]; omega
                · have hsm : decide (1000000 < an) = false := decide_eq_false hbig
                  rcases passE_ways s an d with he | ⟨er, her, he, hs⟩
                  · have HT2 := Lib.hid (hT.out.pass (k := an) (d := d))
                    have HN2 := Lib.hid (HPASS.out s _ an A k d HN.out hT.out (by omega) he)
                    obtain ⟨s2, hs2⟩ : ∃ s2, s2 = passS s an d := ⟨_, rfl⟩
                    rw [← hs2] at HT2 HN2
                    have HP : Hid (∀ w', CI w.heap.size w' g s → w.heap.size ≤ w'.heap.size → Calls Try.prog 28 #[.pointer (some ⟨g, 0, none⟩), .int .i64 an, .int .u64 (d : Int)] w' fun e w'' => e = .returned (.int .i64 0) ∧ CI w.heap.size w'' g s2 ∧ Keep badC w.heap.size w' w'') := Lib.hid fun w' h hn => by
                      have := clockPass an d h hn hd
                      rw [he, ← hs2] at this
                      exact this
                    clear hs2 he hbig
                    go_wp2_with fail
                    refine wp_region_planE_gen (by kernel_rfl) [(0, none), (1, none), (2, none), (3, none), (4, none), (5, none), (6, none), (7, none), (8, none), (9, none), (10, none), (11, none), (12, none), (13, none), (14, none), (15, none), (16, none), (17, none), (18, some [6, 7, 12, 17]), (19, none), (20, none)] (by kernel_rfl) (by kernel_rfl) (by decide) ?_
                    intro wq hwq
                    have hBq : Below wr.heap.size wr wq := by rw [hwq]; exact (Below.refl _ _).drew
                    have hPq := hP.below hBq
                    have hAq := hA.kept hBq
                    have hEq := hE.kept hBq
                    have hBw := hB.trans (hBq.mono hB.size)
                    obtain ⟨c0, c1, c2, c3⟩ := HC.out wq hBw
                    clear hwq hBq hP hB hA hE
                    iterate 4 (refine planE_pure (v := ?_) rfl (by rfl) (fun w' => ?_) ?_; rotate_left; (focus (simp only [List.getElem_toArray, List.getElem_cons_succ, List.getElem_cons_zero]; go_simp; first | with_reducible rfl | (simp (disch := omega) only [if_pos, if_neg, Result.andThen_ok]; try with_reducible rfl) | skip)); try simp only [List.getElem_toArray, List.getElem_cons_succ, List.getElem_cons_zero, Act.put, List.setIfInBounds_toArray, List.set_cons_zero, List.set_cons_succ])
                    refine planE_cells (v := ?_) [(⟨xb, off + k * 4 + 2, none⟩, .int .i64 an)] (by simp; and_intros <;> assumption) rfl (by rfl) (fun w' hw' => ?_) ?_; rotate_left; (focus (simp only [List.forall_mem_cons, List.not_mem_nil, false_imp_iff, implies_true, and_true] at hw'; simp only [List.getElem_toArray, List.getElem_cons_succ, List.getElem_cons_zero]; go_simp; first | with_reducible rfl | (simp (disch := omega) only [if_pos, if_neg, Result.andThen_ok]; try with_reducible rfl) | skip)); try simp only [List.getElem_toArray, List.getElem_cons_succ, List.getElem_cons_zero, Act.put, List.setIfInBounds_toArray, List.set_cons_zero, List.set_cons_succ]
                    iterate 7 (refine planE_pure (v := ?_) rfl (by rfl) (fun w' => ?_) ?_; rotate_left; (focus (simp only [List.getElem_toArray, List.getElem_cons_succ, List.getElem_cons_zero]; go_simp; first | with_reducible rfl | (simp (disch := omega) only [if_pos, if_neg, Result.andThen_ok]; try with_reducible rfl) | skip)); try simp only [List.getElem_toArray, List.getElem_cons_succ, List.getElem_cons_zero, Act.put, List.setIfInBounds_toArray, List.set_cons_zero, List.set_cons_succ])
                    refine planE_cells (v := ?_) [(⟨xb, off + k * 4 + 2, none⟩, .int .i64 an)] (by simp; and_intros <;> assumption) rfl (by rfl) (fun w' hw' => ?_) ?_; rotate_left; (focus (simp only [List.forall_mem_cons, List.not_mem_nil, false_imp_iff, implies_true, and_true] at hw'; simp only [List.getElem_toArray, List.getElem_cons_succ, List.getElem_cons_zero]; go_simp; first | with_reducible rfl | (simp (disch := omega) only [if_pos, if_neg, Result.andThen_ok]; try with_reducible rfl) | skip)); try simp only [List.getElem_toArray, List.getElem_cons_succ, List.getElem_cons_zero, Act.put, List.setIfInBounds_toArray, List.set_cons_zero, List.set_cons_succ]
                    iterate 4 (refine planE_pure (v := ?_) rfl (by rfl) (fun w' => ?_) ?_; rotate_left; (focus (simp only [List.getElem_toArray, List.getElem_cons_succ, List.getElem_cons_zero]; go_simp; first | with_reducible rfl | (simp (disch := omega) only [if_pos, if_neg, Result.andThen_ok]; try with_reducible rfl) | skip)); try simp only [List.getElem_toArray, List.getElem_cons_succ, List.getElem_cons_zero, Act.put, List.setIfInBounds_toArray, List.set_cons_zero, List.set_cons_succ])
                    refine planE_cells (v := ?_) [(⟨xb, off + k * 4 + 3, none⟩, .int .u64 (d : Int))] (by simp; and_intros <;> assumption) rfl (by rfl) (fun w' hw' => ?_) ?_; rotate_left; (focus (simp only [List.forall_mem_cons, List.not_mem_nil, false_imp_iff, implies_true, and_true] at hw'; simp only [List.getElem_toArray, List.getElem_cons_succ, List.getElem_cons_zero]; go_simp; first | with_reducible rfl | (simp (disch := omega) only [if_pos, if_neg, Result.andThen_ok]; try with_reducible rfl) | skip)); try simp only [List.getElem_toArray, List.getElem_cons_succ, List.getElem_cons_zero, Act.put, List.setIfInBounds_toArray, List.set_cons_zero, List.set_cons_succ]
                    refine planE_eff rfl (by rfl) (fun K hK => ?_)
                    go_simp
                    refine (HP.out _ hPq hBw.size).mono ?_
                    rintro e w4 ⟨rfl, hP4, hk4⟩
                    have hA4 := hAq.tm hk4.tm
                    have hE4 := hEq.tm hk4.tm (by simp [badC])
                    have hB4 := hBw.trans hk4.below
                    clear c0 c1 c2 c3 hPq hBw hk4 hAq hEq
                    obtain ⟨c0, c1, c2, c3⟩ := HC.out w4 hB4
                    refine hK _ _ (by simp [owed, left] <;> (and_intros <;> first | trivial | assumption)) ?_
                    clear hK K
                    try simp only [List.getElem_toArray, List.getElem_cons_succ, List.getElem_cons_zero, Act.put, List.setIfInBounds_toArray, List.set_cons_zero, List.set_cons_succ]
                    iterate 2 (refine planE_pure (v := ?_) rfl (by rfl) (fun w' => ?_) ?_; rotate_left; (focus (simp only [List.getElem_toArray, List.getElem_cons_succ, List.getElem_cons_zero]; go_simp; first | with_reducible rfl | (simp (disch := omega) only [if_pos, if_neg, Result.andThen_ok]; try with_reducible rfl) | skip)); try simp only [List.getElem_toArray, List.getElem_cons_succ, List.getElem_cons_zero, Act.put, List.setIfInBounds_toArray, List.set_cons_zero, List.set_cons_succ])
                    refine planE_end ?_
                    clear c0 c1 c2 c3
                    go_wp2_with fail
                    refine (clockTrue hP4).mono ?_
                    rintro e w' ⟨rfl, rfl⟩
                    have HNW : Hid (∀ j, j < 5 → Calls Try.prog 27 #[.pointer (some ⟨g, 0, none⟩), .int .i64 (endAt 3 j)] w4 fun e w'' => e = .returned (.tuple #[.int .i64 (s2.T (endAt 3 j)), .int .i64 0]) ∧ w4 = w'') := Lib.hid fun j hj => by
                      have := clockNow (endAt 3 j) hP4
                      rw [(HT2.out.now hj).1, (HT2.out.now hj).2] at this
                      exact this
                    have HFIN : Hid (CI w.heap.size w4 g s2 ∧ Below w.heap.size w w4) := Lib.hid ⟨hP4, hB4⟩
                    have HFA := Lib.hid hA4
                    have HFE := Lib.hid hE4
                    have l0 := HN2.out.nonneg
                    have l1 := HN2.out.low
                    have l2 := HN2.out.up
                    have hok := hP4.ok.2.2.2.1
                    clear hP4 hB4 hA4 hE4
                    go_wp2_with fail
                    go_loop [15] (fun v => ∃ q : Nat, q ≤ 5 ∧ v = .int .i64 (q : Int)) (fun v => 5 - (intOf v).toNat)
                    case atStart => exact ⟨0, by omega, rfl⟩
                    case round =>
                      obtain ⟨q, hq, rfl⟩ := hrel
                      by_cases h5 : q < 5
                      · have ce := ends_cell HFE.out h5
                        obtain ⟨a, ha, ca⟩ := HFA.out.cell h5
                        obtain ⟨e1, e2, e3, e4, e5⟩ := HN2.out.ends q a ha
                        obtain ⟨⟨f1, f2⟩, f3, f4⟩ := HFIT.out s2 _ A (k + 1) q a HN2.out (by omega) ha
                        have NW := Lib.hid (HNW.out q h5)
                        clear ha
                        generalize s2.T (endAt 3 q) = t at *
                        generalize endAt 3 q = en at *
                        go_wp2_with fail
                        refine NW.out.mono ?_
                        rintro e w' ⟨rfl, rfl⟩
                        go_wp2_with fail
                        go_round
                        case rel => exact ⟨q + 1, by omega, by go_num⟩
                        case measure => simp [intOf]; omega
                      · clear l0 l1 l2 hok
                        go_wp2_with fail
                        go_roundw
                        case rel => exact ⟨k + 1, s2, _, A, by omega, by omega, by go_num, rfl, HFIN.out.1, HFA.out, HFE.out, HT2, Lib.hid (fun _ => HN2.out), HFIN.out.2⟩
                        case measure => simp [intOf]; omega
                  · have HP : Hid (∀ w', CI w.heap.size w' g s → w.heap.size ≤ w'.heap.size → Calls Try.prog 28 #[.pointer (some ⟨g, 0, none⟩), .int .i64 an, .int .u64 (d : Int)] w' fun e w'' => e = .returned (.int .i64 er) ∧ CI w.heap.size w'' g s ∧ Keep badC w.heap.size w' w'') := Lib.hid fun w' h hn => by
                      have := clockPass an d h hn hd
                      rw [he, hs] at this
                      exact this
                    clear he hs hbig
                    rcases her with rfl | rfl
                    all_goals
                      go_wp2_with fail
                      refine wp_region_planE_gen (by kernel_rfl) [(0, none), (1, none), (2, none), (3, none), (4, none), (5, none), (6, none), (7, none), (8, none), (9, none), (10, none), (11, none), (12, none), (13, none), (14, none), (15, none), (16, none), (17, none), (18, some [6, 7, 12, 17]), (19, none), (20, none)] (by kernel_rfl) (by kernel_rfl) (by decide) ?_
                      intro wq hwq
                      have hBq : Below wr.heap.size wr wq := by rw [hwq]; exact (Below.refl _ _).drew
                      have hPq := hP.below hBq
                      have hAq := hA.kept hBq
                      have hEq := hE.kept hBq
                      have hBw := hB.trans (hBq.mono hB.size)
                      obtain ⟨c0, c1, c2, c3⟩ := HC.out wq hBw
                      clear hwq hBq hP hB hA hE
                      iterate 4 (refine planE_pure (v := ?_) rfl (by rfl) (fun w' => ?_) ?_; rotate_left; (focus (simp only [List.getElem_toArray, List.getElem_cons_succ, List.getElem_cons_zero]; go_simp; first | with_reducible rfl | (simp (disch := omega) only [if_pos, if_neg, Result.andThen_ok]; try with_reducible rfl) | skip)); try simp only [List.getElem_toArray, List.getElem_cons_succ, List.getElem_cons_zero, Act.put, List.setIfInBounds_toArray, List.set_cons_zero, List.set_cons_succ])
                      refine planE_cells (v := ?_) [(⟨xb, off + k * 4 + 2, none⟩, .int .i64 an)] (by simp; and_intros <;> assumption) rfl (by rfl) (fun w' hw' => ?_) ?_; rotate_left; (focus (simp only [List.forall_mem_cons, List.not_mem_nil, false_imp_iff, implies_true, and_true] at hw'; simp only [List.getElem_toArray, List.getElem_cons_succ, List.getElem_cons_zero]; go_simp; first | with_reducible rfl | (simp (disch := omega) only [if_pos, if_neg, Result.andThen_ok]; try with_reducible rfl) | skip)); try simp only [List.getElem_toArray, List.getElem_cons_succ, List.getElem_cons_zero, Act.put, List.setIfInBounds_toArray, List.set_cons_zero, List.set_cons_succ]
                      iterate 7 (refine planE_pure (v := ?_) rfl (by rfl) (fun w' => ?_) ?_; rotate_left; (focus (simp only [List.getElem_toArray, List.getElem_cons_succ, List.getElem_cons_zero]; go_simp; first | with_reducible rfl | (simp (disch := omega) only [if_pos, if_neg, Result.andThen_ok]; try with_reducible rfl) | skip)); try simp only [List.getElem_toArray, List.getElem_cons_succ, List.getElem_cons_zero, Act.put, List.setIfInBounds_toArray, List.set_cons_zero, List.set_cons_succ])
                      refine planE_cells (v := ?_) [(⟨xb, off + k * 4 + 2, none⟩, .int .i64 an)] (by simp; and_intros <;> assumption) rfl (by rfl) (fun w' hw' => ?_) ?_; rotate_left; (focus (simp only [List.forall_mem_cons, List.not_mem_nil, false_imp_iff, implies_true, and_true] at hw'; simp only [List.getElem_toArray, List.getElem_cons_succ, List.getElem_cons_zero]; go_simp; first | with_reducible rfl | (simp (disch := omega) only [if_pos, if_neg, Result.andThen_ok]; try with_reducible rfl) | skip)); try simp only [List.getElem_toArray, List.getElem_cons_succ, List.getElem_cons_zero, Act.put, List.setIfInBounds_toArray, List.set_cons_zero, List.set_cons_succ]
                      iterate 4 (refine planE_pure (v := ?_) rfl (by rfl) (fun w' => ?_) ?_; rotate_left; (focus (simp only [List.getElem_toArray, List.getElem_cons_succ, List.getElem_cons_zero]; go_simp; first | with_reducible rfl | (simp (disch := omega) only [if_pos, if_neg, Result.andThen_ok]; try with_reducible rfl) | skip)); try simp only [List.getElem_toArray, List.getElem_cons_succ, List.getElem_cons_zero, Act.put, List.setIfInBounds_toArray, List.set_cons_zero, List.set_cons_succ])
                      refine planE_cells (v := ?_) [(⟨xb, off + k * 4 + 3, none⟩, .int .u64 (d : Int))] (by simp; and_intros <;> assumption) rfl (by rfl) (fun w' hw' => ?_) ?_; rotate_left; (focus (simp only [List.forall_mem_cons, List.not_mem_nil, false_imp_iff, implies_true, and_true] at hw'; simp only [List.getElem_toArray, List.getElem_cons_succ, List.getElem_cons_zero]; go_simp; first | with_reducible rfl | (simp (disch := omega) only [if_pos, if_neg, Result.andThen_ok]; try with_reducible rfl) | skip)); try simp only [List.getElem_toArray, List.getElem_cons_succ, List.getElem_cons_zero, Act.put, List.setIfInBounds_toArray, List.set_cons_zero, List.set_cons_succ]
                      refine planE_eff rfl (by rfl) (fun K hK => ?_)
                      go_simp
                      refine (HP.out _ hPq hBw.size).mono ?_
                      rintro e w4 ⟨rfl, hP4, hk4⟩
                      have hA4 := hAq.tm hk4.tm
                      have hE4 := hEq.tm hk4.tm (by simp [badC])
                      have hB4 := hBw.trans hk4.below
                      clear c0 c1 c2 c3 hPq hBw hk4 hAq hEq
                      obtain ⟨c0, c1, c2, c3⟩ := HC.out w4 hB4
                      refine hK _ _ (by simp [owed, left] <;> (and_intros <;> first | trivial | assumption)) ?_
                      clear hK K
                      try simp only [List.getElem_toArray, List.getElem_cons_succ, List.getElem_cons_zero, Act.put, List.setIfInBounds_toArray, List.set_cons_zero, List.set_cons_succ]
                      iterate 2 (refine planE_pure (v := ?_) rfl (by rfl) (fun w' => ?_) ?_; rotate_left; (focus (simp only [List.getElem_toArray, List.getElem_cons_succ, List.getElem_cons_zero]; go_simp; first | with_reducible rfl | (simp (disch := omega) only [if_pos, if_neg, Result.andThen_ok]; try with_reducible rfl) | skip)); try simp only [List.getElem_toArray, List.getElem_cons_succ, List.getElem_cons_zero, Act.put, List.setIfInBounds_toArray, List.set_cons_zero, List.set_cons_succ])
                      refine planE_end ?_
                      clear c0 c1 c2 c3
                      go_wp2_with fail
                      go_roundw
                      case rel => exact ⟨k + 1, s, _, A, by omega, by omega, by go_num, rfl, hP4, hA4, hE4, hT, Lib.hid (fun _ => HN.out.mono (by omega)), hB4⟩
                      case measure => simp [intOf]; omega
          · have HN := Lib.hid (hN.out hkb)
            clear hN
            by_cases hbig : 1000000 < an
            · go_wp2_with fail
              refine wp_region_planE_gen (by kernel_rfl) [(0, none), (1, none), (2, none), (3, none), (4, none), (5, none), (6, none), (7, none), (8, none), (9, none), (10, none), (11, none), (12, none), (13, none), (14, none), (15, none), (16, none), (17, none), (18, none), (19, none), (20, none)] (by kernel_rfl) (by kernel_rfl) (by decide) ?_
              intro wq hwq
              have hBq : Below wr.heap.size wr wq := by rw [hwq]; exact (Below.refl _ _).drew
              have hPq := hP.below hBq
              have hAq := hA.kept hBq
              have hEq := hE.kept hBq
              have hBw := hB.trans (hBq.mono hB.size)
              obtain ⟨c0, c1, c2, c3⟩ := HC.out wq hBw
              clear hwq hBq hP hB hA hE
              iterate 4 (refine planE_pure (v := ?_) rfl (by rfl) (fun w' => ?_) ?_; rotate_left; (focus (simp only [List.getElem_toArray, List.getElem_cons_succ, List.getElem_cons_zero]; go_simp; first | with_reducible rfl | (simp (disch := omega) only [if_pos, if_neg, Result.andThen_ok]; try with_reducible rfl) | skip)); try simp only [List.getElem_toArray, List.getElem_cons_succ, List.getElem_cons_zero, Act.put, List.setIfInBounds_toArray, List.set_cons_zero, List.set_cons_succ])
              refine planE_cells (v := ?_) [(⟨xb, off + k * 4 + 2, none⟩, .int .i64 an)] (by simp; and_intros <;> assumption) rfl (by rfl) (fun w' hw' => ?_) ?_; rotate_left; (focus (simp only [List.forall_mem_cons, List.not_mem_nil, false_imp_iff, implies_true, and_true] at hw'; simp only [List.getElem_toArray, List.getElem_cons_succ, List.getElem_cons_zero]; go_simp; first | with_reducible rfl | (simp (disch := omega) only [if_pos, if_neg, Result.andThen_ok]; try with_reducible rfl) | skip)); try simp only [List.getElem_toArray, List.getElem_cons_succ, List.getElem_cons_zero, Act.put, List.setIfInBounds_toArray, List.set_cons_zero, List.set_cons_succ]
              iterate 2 (refine planE_pure (v := ?_) rfl (by rfl) (fun w' => ?_) ?_; rotate_left; (focus (simp only [List.getElem_toArray, List.getElem_cons_succ, List.getElem_cons_zero]; go_simp; first | with_reducible rfl | (simp (disch := omega) only [if_pos, if_neg, Result.andThen_ok]; try with_reducible rfl) | skip)); try simp only [List.getElem_toArray, List.getElem_cons_succ, List.getElem_cons_zero, Act.put, List.setIfInBounds_toArray, List.set_cons_zero, List.set_cons_succ])
              refine planE_skip rfl (by rfl) ?_
              try simp only [List.getElem_toArray, List.getElem_cons_succ, List.getElem_cons_zero, Act.put, List.setIfInBounds_toArray, List.set_cons_zero, List.set_cons_succ]
              refine planE_skip rfl (by rfl) ?_
              try simp only [List.getElem_toArray, List.getElem_cons_succ, List.getElem_cons_zero, Act.put, List.setIfInBounds_toArray, List.set_cons_zero, List.set_cons_succ]
              refine planE_skip rfl (by rfl) ?_
              try simp only [List.getElem_toArray, List.getElem_cons_succ, List.getElem_cons_zero, Act.put, List.setIfInBounds_toArray, List.set_cons_zero, List.set_cons_succ]
              refine planE_skip rfl (by rfl) ?_
              try simp only [List.getElem_toArray, List.getElem_cons_succ, List.getElem_cons_zero, Act.put, List.setIfInBounds_toArray, List.set_cons_zero, List.set_cons_succ]
              refine planE_skip rfl (by rfl) ?_
              try simp only [List.getElem_toArray, List.getElem_cons_succ, List.getElem_cons_zero, Act.put, List.setIfInBounds_toArray, List.set_cons_zero, List.set_cons_succ]
              refine planE_skip rfl (by rfl) ?_
              try simp only [List.getElem_toArray, List.getElem_cons_succ, List.getElem_cons_zero, Act.put, List.setIfInBounds_toArray, List.set_cons_zero, List.set_cons_succ]
              refine planE_skip rfl (by rfl) ?_
              try simp only [List.getElem_toArray, List.getElem_cons_succ, List.getElem_cons_zero, Act.put, List.setIfInBounds_toArray, List.set_cons_zero, List.set_cons_succ]
              refine planE_skip rfl (by rfl) ?_
              try simp only [List.getElem_toArray, List.getElem_cons_succ, List.getElem_cons_zero, Act.put, List.setIfInBounds_toArray, List.set_cons_zero, List.set_cons_succ]
              refine planE_skip rfl (by rfl) ?_
              try simp only [List.getElem_toArray, List.getElem_cons_succ, List.getElem_cons_zero, Act.put, List.setIfInBounds_toArray, List.set_cons_zero, List.set_cons_succ]
              refine planE_skip rfl (by rfl) ?_
              try simp only [List.getElem_toArray, List.getElem_cons_succ, List.getElem_cons_zero, Act.put, List.setIfInBounds_toArray, List.set_cons_zero, List.set_cons_succ]
              refine planE_skip rfl (by rfl) ?_
              try simp only [List.getElem_toArray, List.getElem_cons_succ, List.getElem_cons_zero, Act.put, List.setIfInBounds_toArray, List.set_cons_zero, List.set_cons_succ]
              refine planE_skip rfl (by rfl) ?_
              try simp only [List.getElem_toArray, List.getElem_cons_succ, List.getElem_cons_zero, Act.put, List.setIfInBounds_toArray, List.set_cons_zero, List.set_cons_succ]
              refine planE_skip rfl (by rfl) ?_
              try simp only [List.getElem_toArray, List.getElem_cons_succ, List.getElem_cons_zero, Act.put, List.setIfInBounds_toArray, List.set_cons_zero, List.set_cons_succ]
              iterate 1 (refine planE_pure (v := ?_) rfl (by rfl) (fun w' => ?_) ?_; rotate_left; (focus (simp only [List.getElem_toArray, List.getElem_cons_succ, List.getElem_cons_zero]; go_simp; first | with_reducible rfl | (simp (disch := omega) only [if_pos, if_neg, Result.andThen_ok]; try with_reducible rfl) | skip)); try simp only [List.getElem_toArray, List.getElem_cons_succ, List.getElem_cons_zero, Act.put, List.setIfInBounds_toArray, List.set_cons_zero, List.set_cons_succ])
              refine planE_end ?_
              clear c0 c1 c2 c3
              go_wp2_with fail
              go_roundw
              case rel => exact ⟨k + 1, s, _, A, by omega, by omega, by go_num, rfl, hPq, hAq, hEq, hT, Lib.hid (fun _ => HN.out.mono (by omega)), hBw⟩
              case measure => simp [intOf]; omega
            · have hsm : decide (1000000 < an) = false := decide_eq_false hbig
              rcases passE_ways s an d with he | ⟨er, her, he, hs⟩
              · have HT2 := Lib.hid (hT.out.pass (k := an) (d := d))
                have HN2 := Lib.hid (HPASS.out s _ an A k d HN.out hT.out (by omega) he)
                obtain ⟨s2, hs2⟩ : ∃ s2, s2 = passS s an d := ⟨_, rfl⟩
                rw [← hs2] at HT2 HN2
                have HP : Hid (∀ w', CI w.heap.size w' g s → w.heap.size ≤ w'.heap.size → Calls Try.prog 28 #[.pointer (some ⟨g, 0, none⟩), .int .i64 an, .int .u64 (d : Int)] w' fun e w'' => e = .returned (.int .i64 0) ∧ CI w.heap.size w'' g s2 ∧ Keep badC w.heap.size w' w'') := Lib.hid fun w' h hn => by
                  have := clockPass an d h hn hd
                  rw [he, ← hs2] at this
                  exact this
                clear hs2 he hbig
                go_wp2_with fail
                refine wp_region_planE_gen (by kernel_rfl) [(0, none), (1, none), (2, none), (3, none), (4, none), (5, none), (6, none), (7, none), (8, none), (9, none), (10, none), (11, none), (12, none), (13, none), (14, none), (15, none), (16, none), (17, none), (18, some [6, 7, 12, 17]), (19, none), (20, none)] (by kernel_rfl) (by kernel_rfl) (by decide) ?_
                intro wq hwq
                have hBq : Below wr.heap.size wr wq := by rw [hwq]; exact (Below.refl _ _).drew
                have hPq := hP.below hBq
                have hAq := hA.kept hBq
                have hEq := hE.kept hBq
                have hBw := hB.trans (hBq.mono hB.size)
                obtain ⟨c0, c1, c2, c3⟩ := HC.out wq hBw
                clear hwq hBq hP hB hA hE
                iterate 4 (refine planE_pure (v := ?_) rfl (by rfl) (fun w' => ?_) ?_; rotate_left; (focus (simp only [List.getElem_toArray, List.getElem_cons_succ, List.getElem_cons_zero]; go_simp; first | with_reducible rfl | (simp (disch := omega) only [if_pos, if_neg, Result.andThen_ok]; try with_reducible rfl) | skip)); try simp only [List.getElem_toArray, List.getElem_cons_succ, List.getElem_cons_zero, Act.put, List.setIfInBounds_toArray, List.set_cons_zero, List.set_cons_succ])
                refine planE_cells (v := ?_) [(⟨xb, off + k * 4 + 2, none⟩, .int .i64 an)] (by simp; and_intros <;> assumption) rfl (by rfl) (fun w' hw' => ?_) ?_; rotate_left; (focus (simp only [List.forall_mem_cons, List.not_mem_nil, false_imp_iff, implies_true, and_true] at hw'; simp only [List.getElem_toArray, List.getElem_cons_succ, List.getElem_cons_zero]; go_simp; first | with_reducible rfl | (simp (disch := omega) only [if_pos, if_neg, Result.andThen_ok]; try with_reducible rfl) | skip)); try simp only [List.getElem_toArray, List.getElem_cons_succ, List.getElem_cons_zero, Act.put, List.setIfInBounds_toArray, List.set_cons_zero, List.set_cons_succ]
                iterate 7 (refine planE_pure (v := ?_) rfl (by rfl) (fun w' => ?_) ?_; rotate_left; (focus (simp only [List.getElem_toArray, List.getElem_cons_succ, List.getElem_cons_zero]; go_simp; first | with_reducible rfl | (simp (disch := omega) only [if_pos, if_neg, Result.andThen_ok]; try with_reducible rfl) | skip)); try simp only [List.getElem_toArray, List.getElem_cons_succ, List.getElem_cons_zero, Act.put, List.setIfInBounds_toArray, List.set_cons_zero, List.set_cons_succ])
                refine planE_cells (v := ?_) [(⟨xb, off + k * 4 + 2, none⟩, .int .i64 an)] (by simp; and_intros <;> assumption) rfl (by rfl) (fun w' hw' => ?_) ?_; rotate_left; (focus (simp only [List.forall_mem_cons, List.not_mem_nil, false_imp_iff, implies_true, and_true] at hw'; simp only [List.getElem_toArray, List.getElem_cons_succ, List.getElem_cons_zero]; go_simp; first | with_reducible rfl | (simp (disch := omega) only [if_pos, if_neg, Result.andThen_ok]; try with_reducible rfl) | skip)); try simp only [List.getElem_toArray, List.getElem_cons_succ, List.getElem_cons_zero, Act.put, List.setIfInBounds_toArray, List.set_cons_zero, List.set_cons_succ]
                iterate 4 (refine planE_pure (v := ?_) rfl (by rfl) (fun w' => ?_) ?_; rotate_left; (focus (simp only [List.getElem_toArray, List.getElem_cons_succ, List.getElem_cons_zero]; go_simp; first | with_reducible rfl | (simp (disch := omega) only [if_pos, if_neg, Result.andThen_ok]; try with_reducible rfl) | skip)); try simp only [List.getElem_toArray, List.getElem_cons_succ, List.getElem_cons_zero, Act.put, List.setIfInBounds_toArray, List.set_cons_zero, List.set_cons_succ])
                refine planE_cells (v := ?_) [(⟨xb, off + k * 4 + 3, none⟩, .int .u64 (d : Int))] (by simp; and_intros <;> assumption) rfl (by rfl) (fun w' hw' => ?_) ?_; rotate_left; (focus (simp only [List.forall_mem_cons, List.not_mem_nil, false_imp_iff, implies_true, and_true] at hw'; simp only [List.getElem_toArray, List.getElem_cons_succ, List.getElem_cons_zero]; go_simp; first | with_reducible rfl | (simp (disch := omega) only [if_pos, if_neg, Result.andThen_ok]; try with_reducible rfl) | skip)); try simp only [List.getElem_toArray, List.getElem_cons_succ, List.getElem_cons_zero, Act.put, List.setIfInBounds_toArray, List.set_cons_zero, List.set_cons_succ]
                refine planE_eff rfl (by rfl) (fun K hK => ?_)
                go_simp
                refine (HP.out _ hPq hBw.size).mono ?_
                rintro e w4 ⟨rfl, hP4, hk4⟩
                have hA4 := hAq.tm hk4.tm
                have hE4 := hEq.tm hk4.tm (by simp [badC])
                have hB4 := hBw.trans hk4.below
                clear c0 c1 c2 c3 hPq hBw hk4 hAq hEq
                obtain ⟨c0, c1, c2, c3⟩ := HC.out w4 hB4
                refine hK _ _ (by simp [owed, left] <;> (and_intros <;> first | trivial | assumption)) ?_
                clear hK K
                try simp only [List.getElem_toArray, List.getElem_cons_succ, List.getElem_cons_zero, Act.put, List.setIfInBounds_toArray, List.set_cons_zero, List.set_cons_succ]
                iterate 2 (refine planE_pure (v := ?_) rfl (by rfl) (fun w' => ?_) ?_; rotate_left; (focus (simp only [List.getElem_toArray, List.getElem_cons_succ, List.getElem_cons_zero]; go_simp; first | with_reducible rfl | (simp (disch := omega) only [if_pos, if_neg, Result.andThen_ok]; try with_reducible rfl) | skip)); try simp only [List.getElem_toArray, List.getElem_cons_succ, List.getElem_cons_zero, Act.put, List.setIfInBounds_toArray, List.set_cons_zero, List.set_cons_succ])
                refine planE_end ?_
                clear c0 c1 c2 c3
                go_wp2_with fail
                refine (clockTrue hP4).mono ?_
                rintro e w' ⟨rfl, rfl⟩
                have HNW : Hid (∀ j, j < 5 → Calls Try.prog 27 #[.pointer (some ⟨g, 0, none⟩), .int .i64 (endAt 3 j)] w4 fun e w'' => e = .returned (.tuple #[.int .i64 (s2.T (endAt 3 j)), .int .i64 0]) ∧ w4 = w'') := Lib.hid fun j hj => by
                  have := clockNow (endAt 3 j) hP4
                  rw [(HT2.out.now hj).1, (HT2.out.now hj).2] at this
                  exact this
                have HFIN : Hid (CI w.heap.size w4 g s2 ∧ Below w.heap.size w w4) := Lib.hid ⟨hP4, hB4⟩
                have HFA := Lib.hid hA4
                have HFE := Lib.hid hE4
                have l0 := HN2.out.nonneg
                have l1 := HN2.out.low
                have l2 := HN2.out.up
                have hok := hP4.ok.2.2.2.1
                clear hP4 hB4 hA4 hE4
                go_wp2_with fail
                go_loop [15] (fun v => ∃ q : Nat, q ≤ 5 ∧ v = .int .i64 (q : Int)) (fun v => 5 - (intOf v).toNat)
                case atStart => exact ⟨0, by omega, rfl⟩
                case round =>
                  obtain ⟨q, hq, rfl⟩ := hrel
                  by_cases h5 : q < 5
                  · have ce := ends_cell HFE.out h5
                    obtain ⟨a, ha, ca⟩ := HFA.out.cell h5
                    obtain ⟨e1, e2, e3, e4, e5⟩ := HN2.out.ends q a ha
                    obtain ⟨⟨f1, f2⟩, f3, f4⟩ := HFIT.out s2 _ A (k + 1) q a HN2.out (by omega) ha
                    have NW := Lib.hid (HNW.out q h5)
                    clear ha
                    generalize s2.T (endAt 3 q) = t at *
                    generalize endAt 3 q = en at *
                    go_wp2_with fail
                    refine NW.out.mono ?_
                    rintro e w' ⟨rfl, rfl⟩
                    go_wp2_with fail
                    go_round
                    case rel => exact ⟨q + 1, by omega, by go_num⟩
                    case measure => simp [intOf]; omega
                  · clear l0 l1 l2 hok
                    go_wp2_with fail
                    go_roundw
                    case rel => exact ⟨k + 1, s2, _, A, by omega, by omega, by go_num, rfl, HFIN.out.1, HFA.out, HFE.out, HT2, Lib.hid (fun _ => HN2.out), HFIN.out.2⟩
                    case measure => simp [intOf]; omega
              · have HP : Hid (∀ w', CI w.heap.size w' g s → w.heap.size ≤ w'.heap.size → Calls Try.prog 28 #[.pointer (some ⟨g, 0, none⟩), .int .i64 an, .int .u64 (d : Int)] w' fun e w'' => e = .returned (.int .i64 er) ∧ CI w.heap.size w'' g s ∧ Keep badC w.heap.size w' w'') := Lib.hid fun w' h hn => by
                  have := clockPass an d h hn hd
                  rw [he, hs] at this
                  exact this
                clear he hs hbig
                rcases her with rfl | rfl
                all_goals
                  go_wp2_with fail
                  refine wp_region_planE_gen (by kernel_rfl) [(0, none), (1, none), (2, none), (3, none), (4, none), (5, none), (6, none), (7, none), (8, none), (9, none), (10, none), (11, none), (12, none), (13, none), (14, none), (15, none), (16, none), (17, none), (18, some [6, 7, 12, 17]), (19, none), (20, none)] (by kernel_rfl) (by kernel_rfl) (by decide) ?_
                  intro wq hwq
                  have hBq : Below wr.heap.size wr wq := by rw [hwq]; exact (Below.refl _ _).drew
                  have hPq := hP.below hBq
                  have hAq := hA.kept hBq
                  have hEq := hE.kept hBq
                  have hBw := hB.trans (hBq.mono hB.size)
                  obtain ⟨c0, c1, c2, c3⟩ := HC.out wq hBw
                  clear hwq hBq hP hB hA hE
                  iterate 4 (refine planE_pure (v := ?_) rfl (by rfl) (fun w' => ?_) ?_; rotate_left; (focus (simp only [List.getElem_toArray, List.getElem_cons_succ, List.getElem_cons_zero]; go_simp; first | with_reducible rfl | (simp (disch := omega) only [if_pos, if_neg, Result.andThen_ok]; try with_reducible rfl) | skip)); try simp only [List.getElem_toArray, List.getElem_cons_succ, List.getElem_cons_zero, Act.put, List.setIfInBounds_toArray, List.set_cons_zero, List.set_cons_succ])
                  refine planE_cells (v := ?_) [(⟨xb, off + k * 4 + 2, none⟩, .int .i64 an)] (by simp; and_intros <;> assumption) rfl (by rfl) (fun w' hw' => ?_) ?_; rotate_left; (focus (simp only [List.forall_mem_cons, List.not_mem_nil, false_imp_iff, implies_true, and_true] at hw'; simp only [List.getElem_toArray, List.getElem_cons_succ, List.getElem_cons_zero]; go_simp; first | with_reducible rfl | (simp (disch := omega) only [if_pos, if_neg, Result.andThen_ok]; try with_reducible rfl) | skip)); try simp only [List.getElem_toArray, List.getElem_cons_succ, List.getElem_cons_zero, Act.put, List.setIfInBounds_toArray, List.set_cons_zero, List.set_cons_succ]
                  iterate 7 (refine planE_pure (v := ?_) rfl (by rfl) (fun w' => ?_) ?_; rotate_left; (focus (simp only [List.getElem_toArray, List.getElem_cons_succ, List.getElem_cons_zero]; go_simp; first | with_reducible rfl | (simp (disch := omega) only [if_pos, if_neg, Result.andThen_ok]; try with_reducible rfl) | skip)); try simp only [List.getElem_toArray, List.getElem_cons_succ, List.getElem_cons_zero, Act.put, List.setIfInBounds_toArray, List.set_cons_zero, List.set_cons_succ])
                  refine planE_cells (v := ?_) [(⟨xb, off + k * 4 + 2, none⟩, .int .i64 an)] (by simp; and_intros <;> assumption) rfl (by rfl) (fun w' hw' => ?_) ?_; rotate_left; (focus (simp only [List.forall_mem_cons, List.not_mem_nil, false_imp_iff, implies_true, and_true] at hw'; simp only [List.getElem_toArray, List.getElem_cons_succ, List.getElem_cons_zero]; go_simp; first | with_reducible rfl | (simp (disch := omega) only [if_pos, if_neg, Result.andThen_ok]; try with_reducible rfl) | skip)); try simp only [List.getElem_toArray, List.getElem_cons_succ, List.getElem_cons_zero, Act.put, List.setIfInBounds_toArray, List.set_cons_zero, List.set_cons_succ]
                  iterate 4 (refine planE_pure (v := ?_) rfl (by rfl) (fun w' => ?_) ?_; rotate_left; (focus (simp only [List.getElem_toArray, List.getElem_cons_succ, List.getElem_cons_zero]; go_simp; first | with_reducible rfl | (simp (disch := omega) only [if_pos, if_neg, Result.andThen_ok]; try with_reducible rfl) | skip)); try simp only [List.getElem_toArray, List.getElem_cons_succ, List.getElem_cons_zero, Act.put, List.setIfInBounds_toArray, List.set_cons_zero, List.set_cons_succ])
                  refine planE_cells (v := ?_) [(⟨xb, off + k * 4 + 3, none⟩, .int .u64 (d : Int))] (by simp; and_intros <;> assumption) rfl (by rfl) (fun w' hw' => ?_) ?_; rotate_left; (focus (simp only [List.forall_mem_cons, List.not_mem_nil, false_imp_iff, implies_true, and_true] at hw'; simp only [List.getElem_toArray, List.getElem_cons_succ, List.getElem_cons_zero]; go_simp; first | with_reducible rfl | (simp (disch := omega) only [if_pos, if_neg, Result.andThen_ok]; try with_reducible rfl) | skip)); try simp only [List.getElem_toArray, List.getElem_cons_succ, List.getElem_cons_zero, Act.put, List.setIfInBounds_toArray, List.set_cons_zero, List.set_cons_succ]
                  refine planE_eff rfl (by rfl) (fun K hK => ?_)
                  go_simp
                  refine (HP.out _ hPq hBw.size).mono ?_
                  rintro e w4 ⟨rfl, hP4, hk4⟩
                  have hA4 := hAq.tm hk4.tm
                  have hE4 := hEq.tm hk4.tm (by simp [badC])
                  have hB4 := hBw.trans hk4.below
                  clear c0 c1 c2 c3 hPq hBw hk4 hAq hEq
                  obtain ⟨c0, c1, c2, c3⟩ := HC.out w4 hB4
                  refine hK _ _ (by simp [owed, left] <;> (and_intros <;> first | trivial | assumption)) ?_
                  clear hK K
                  try simp only [List.getElem_toArray, List.getElem_cons_succ, List.getElem_cons_zero, Act.put, List.setIfInBounds_toArray, List.set_cons_zero, List.set_cons_succ]
                  iterate 2 (refine planE_pure (v := ?_) rfl (by rfl) (fun w' => ?_) ?_; rotate_left; (focus (simp only [List.getElem_toArray, List.getElem_cons_succ, List.getElem_cons_zero]; go_simp; first | with_reducible rfl | (simp (disch := omega) only [if_pos, if_neg, Result.andThen_ok]; try with_reducible rfl) | skip)); try simp only [List.getElem_toArray, List.getElem_cons_succ, List.getElem_cons_zero, Act.put, List.setIfInBounds_toArray, List.set_cons_zero, List.set_cons_succ])
                  refine planE_end ?_
                  clear c0 c1 c2 c3
                  go_wp2_with fail
                  go_roundw
                  case rel => exact ⟨k + 1, s, _, A, by omega, by omega, by go_num, rfl, hP4, hA4, hE4, hT, Lib.hid (fun _ => HN.out.mono (by omega)), hB4⟩
                  case measure => simp [intOf]; omega
        · have h2 : ¬ (k : Int) < 100 := by omega
          have ST := Lib.hid (clockSteady hP)
          rw [hT.out.skew] at ST
          clear hP hA hE hN
          go_wp2_with fail
          refine ST.out.mono ?_
          rintro e w' ⟨rfl, rfl⟩
          go_wp2_with fail
          go_ret
          exact ⟨rfl, hB⟩
      · have ST := Lib.hid (clockSteady hP)
        rw [hT.out.skew] at ST
        clear hP hA hE hN
        go_wp2_with fail
        refine ST.out.mono ?_
        rintro e w' ⟨rfl, rfl⟩
        go_wp2_with fail
        go_ret
        exact ⟨rfl, hB⟩
theorem walkClockDrift' (rho : Int) (X : Option Addr) (cx : Nat) (L : List (List Fv)) (u : Int) (w : World) (h1 : I64 rho) (hX : RS w X 4 (L.map (·.map Fv.val))) (hL : L.length ≤ 9223372036854775807) (hR : ∀ r ∈ L, rowOk w actK9 r) (hu : 0 ≤ u ∧ u ≤ 255) :
    Calls Try.prog 6 #[.int .i64 rho, .slice X L.length cx, .int .u8 u] w (Yes w) := by
  obtain ⟨b, rfl⟩ := Int.eq_ofNat_of_zero_le hu.1
  exact walkClockDrift rho X cx L b w h1 hX hL hR (by omega)
end Go.Proofs.Ytekkcbonkjdgeaa
