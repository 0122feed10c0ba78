/- The walk of ClockTrust. -/
import Derived.Test.YtekkcbonkjdgeaaWClockA
import Derived.Test.YtekkcbonkjdgeaaTrustNum
namespace Go.Proofs.Ytekkcbonkjdgeaa
open Go.RowKit

/-- Two nodes' clocks, behind one true time. -/
structure Trusty (s : Clk) (rho : Int) : Prop where
  nodes : s.nodes = 2
  edges : s.edges = 0
  rate : s.rho = rho
  slow : s.real * 1000000 ≤ s.T 1 * (1000000 + rho)
  fast : s.T 2 * 1000000 ≤ s.real * (1000000 + rho)
theorem Trusty.new (rho : Int) : Trusty (clk0 2 0 rho) rho := ⟨rfl, rfl, rfl, by simp [clk0], by simp [clk0]⟩
theorem Trusty.now1 {s : Clk} {rho : Int} (h : Trusty s rho) : nowV s 1 = s.T 1 ∧ nowE s 1 = 0 := by
  have : inE s.nodes s.edges 1 = true := by rw [h.nodes, h.edges]; decide
  rw [nowV, nowE, if_pos this, if_pos this]; exact ⟨rfl, rfl⟩
theorem Trusty.now2 {s : Clk} {rho : Int} (h : Trusty s rho) : nowV s 2 = s.T 2 ∧ nowE s 2 = 0 := by
  have : inE s.nodes s.edges 2 = true := by rw [h.nodes, h.edges]; decide
  rw [nowV, nowE, if_pos this, if_pos this]; exact ⟨rfl, rfl⟩
theorem passE_good {s : Clk} {k : Int} {d : Nat} (h : passE s k d = 0) : 0 ≤ k ∧ k ≤ 1099511627776 := by
  unfold passE at h
  split at h
  · cases h
  · omega
theorem passE_ways (s : Clk) (k : Int) (d : Nat) : passE s k d = 0 ∨ ∃ er, (er = 1 ∨ er = 3) ∧ passE s k d = er ∧ passS s k d = s := by
  by_cases h : passE s k d = 0
  · exact .inl h
  · have hs : passS s k d = s := by rw [passS, if_neg h]
    have : passE s k d = 1 ∨ passE s k d = 3 := by
      unfold passE at h ⊢
      split
      · exact .inl rfl
      · split
        · exact .inr rfl
        · exfalso; apply h; rw [if_neg (by assumption), if_neg (by assumption)]
    exact .inr ⟨_, this, rfl, hs⟩
theorem Trusty.pass {s : Clk} {rho k : Int} {d : Nat} (h : Trusty s rho) (hr : 0 ≤ rho) (hr2 : rho ≤ 500000) (hp : passE s k d = 0) : Trusty (passS s k d) rho := by
  obtain ⟨h1, h2, h3, h4, h5⟩ := h
  have hk := passE_good hp
  have hg : Good k rho := ⟨hk.1, hk.2, hr, hr2⟩
  have d1 := step_drift hg d 1
  have d2 := step_drift hg d 2
  rw [passS, if_pos hp]
  refine ⟨h1, h2, h3, ?_, ?_⟩
  · simp only [h3]
    rw [Int.add_mul, Int.add_mul]
    omega
  · simp only [h3]
    rw [Int.add_mul, Int.add_mul]
    omega

set_option maxRecDepth 20000 in
set_option maxHeartbeats 8000000 in
theorem walkClockTrust (rho t : Int) (X : Option Addr) (cx : Nat) (L : List (List Fv)) (w : World) (h1 : I64 rho) (h2 : I64 t) (hX : RS w X 4 (L.map (·.map Fv.val))) (hL : L.length ≤ 9223372036854775807) (hR : ∀ r ∈ L, rowOk w actK9 r) :
    Calls Try.prog 7 #[.int .i64 rho, .int .i64 t, .slice X L.length cx] w (Yes w) := by
  have S := Lib.hid clockAnswers
  have HX := Lib.hid hX
  have HR := Lib.hid hR
  have B := Lib.hid (fun w' => refBad t rho w' h2 h1)
  clear hX hR h1 h2
  cases hno : newOk 2 0 rho
  · have N := Lib.hid (clockNew_bad 2 0 rho w hno)
    clear hno
    go_enter Try.func7, Try.ntmps7
    go_wp2_with fail
    refine N.out.mono ?_
    rintro e w1 ⟨rfl, rfl⟩
    go_wp2_with fail
    refine (S.out _).mono ?_
    rintro e w2 ⟨rfl, hb2⟩
    go_wp2_with fail
    refine (S.out _).mono ?_
    rintro e w3 ⟨rfl, hb3⟩
    have hB := hb2.trans (hb3.mono hb2.size)
    clear hb2 hb3
    go_wp2_with fail
    go_ret
    exact ⟨rfl, hB⟩
  · have N := Lib.hid (clockNew 2 0 rho w hno)
    have hrho : 0 ≤ rho ∧ rho ≤ 500000 := by
      have : (1 ≤ (2 : Int) ∧ (2 : Int) ≤ 16) ∧ (0 ≤ (0 : Int) ∧ (0 : Int) ≤ 16) ∧ 0 ≤ rho ∧ rho ≤ 500000 := by simpa [newOk] using hno
      omega
    clear hno
    cases hbad : badB t rho
    case true =>
      rw [hbad] at B
      clear hbad
      go_enter Try.func7, Try.ntmps7
      go_wp2_with fail
      refine N.out.mono ?_
      rintro e w1 ⟨g, rfl, hP1, hb1⟩
      clear hP1
      go_wp2_with fail
      refine (S.out _).mono ?_
      rintro e w2 ⟨rfl, hb2⟩
      have hB2 := hb1.trans (hb2.mono hb1.size)
      clear hb1 hb2
      go_wp2_with fail
      refine (B.out _).mono ?_
      rintro e w' ⟨rfl, rfl⟩
      go_wp2_with fail
      refine (S.out _).mono ?_
      rintro e w3 ⟨rfl, hb3⟩
      have hB := hB2.trans (hb3.mono hB2.size)
      clear hB2 hb3
      go_wp2_with fail
      go_ret
      exact ⟨rfl, hB⟩
    case false =>
      have hg := good_iff.1 hbad
      have G := Lib.hid (fun w' => refGuard t rho w' hg)
      have HEND : Hid (∀ s : Clk, Trusty s rho → t ≤ s.T 2 → guardV t rho ≤ s.T 1) := Lib.hid fun s h ht => trust_end hrho.1 h.slow h.fast ht
      have HPASS : Hid (∀ (s : Clk) (k : Int) (d : Nat), Trusty s rho → passE s k d = 0 → Trusty (passS s k d) rho) := Lib.hid fun s k d h hp => h.pass hrho.1 hrho.2 hp
      have HT0 := Lib.hid (Trusty.new rho)
      rw [hbad] at B
      clear hbad hg hrho
      generalize guardV t rho = gv at *
      go_enter Try.func7, Try.ntmps7
      go_wp2_with fail
      refine N.out.mono ?_
      rintro e w1 ⟨g, rfl, hP1, hb1⟩
      go_wp2_with fail
      refine (S.out _).mono ?_
      rintro e w2 ⟨rfl, hb2⟩
      have hP2 := hP1.below hb2
      have hB2 := hb1.trans (hb2.mono hb1.size)
      clear hb1 hb2 hP1
      go_wp2_with fail
      refine (B.out _).mono ?_
      rintro e w' ⟨rfl, rfl⟩
      go_wp2_with fail
      refine (G.out _).mono ?_
      rintro e w3 ⟨rfl, n3, rfl⟩
      have hP3 := hP2.below (belowDrewN' (Below.refl _ w2) n3)
      have hB3 := belowDrewN' hB2 n3
      clear hP2 hB2 B G N
      generalize w2.drewN n3 = w3 at *
      go_wp2_with fail
      go_loopw [10] (fun i wr => ∃ (k : Nat) (s : Clk), k ≤ L.length ∧ k ≤ 100 ∧ i = .int .i64 (k : Int) ∧ CI w.heap.size wr g s ∧ Hid (Trusty s rho) ∧ Below w.heap.size w wr)
        (fun i _ => L.length - (intOf i).toNat)
      case atStart => exact ⟨0, _, Nat.zero_le _, Nat.zero_le _, rfl, hP3, HT0, hB3⟩
      case round =>
        obtain ⟨k, s, hk, hk2, rfl, hP, hT, hB⟩ := hrel
        clear hP3 hB3
        by_cases hlt : k < L.length
        · by_cases hlt2 : k < 100
          · obtain ⟨b, off, rfl, _, _⟩ := (HX.out.below hB).row (i := k) (by simpa using hlt)
            obtain ⟨ak, ax, an, d, hrow, _, hix, hin, hd⟩ := act_row9 (HR.out L[k] (List.getElem_mem hlt))
            have HC : Hid (∀ w', Below w.heap.size w w' → w'.cell? ⟨b, off + k * 4, none⟩ = some (.int .i64 ak) ∧ w'.cell? ⟨b, off + k * 4 + 1, none⟩ = some (.int .i64 ax) ∧ w'.cell? ⟨b, off + k * 4 + 2, none⟩ = some (.int .i64 an) ∧ w'.cell? ⟨b, off + k * 4 + 3, none⟩ = some (.int .u64 (d : Int))) :=
              Lib.hid fun w' hw' => act_cells9 (HX.out.below hw') (by rw [List.getElem?_eq_getElem hlt, hrow])
            clear hrow hix hin
            by_cases hbig : 1000000 < an
            · go_wp2_with fail
              refine wp_region_planE_gen (by kernel_rfl) [(0, none), (1, none), (2, none), (3, none), (4, none), (5, none), (6, none), (7, none), (8, none), (9, none), (10, none), (11, none), (12, none), (13, none), (14, none), (15, none), (16, none), (17, none), (18, none), (19, none), (20, none)] (by kernel_rfl) (by kernel_rfl) (by decide) ?_
              intro wq hwq
              have hBq : Below wr.heap.size wr wq := by rw [hwq]; exact (Below.refl _ _).drew
              have hPq := hP.below hBq
              have hB2 := hB.trans (hBq.mono hB.size)
              obtain ⟨c0, c1, c2, c3⟩ := HC.out wq hB2
              clear hwq hBq hP hB
              iterate 4 (refine planE_pure (v := ?_) rfl (by rfl) (fun w' => ?_) ?_; rotate_left; (focus (simp only [List.getElem_toArray, List.getElem_cons_succ, List.getElem_cons_zero]; go_simp; first | with_reducible rfl | (simp (disch := omega) only [if_pos, if_neg, Result.andThen_ok]; try with_reducible rfl) | skip)); try simp only [List.getElem_toArray, List.getElem_cons_succ, List.getElem_cons_zero, Act.put, List.setIfInBounds_toArray, List.set_cons_zero, List.set_cons_succ])
              refine planE_cells (v := ?_) [(⟨b, off + k * 4 + 2, none⟩, .int .i64 an)] (by simp; and_intros <;> assumption) rfl (by rfl) (fun w' hw' => ?_) ?_; rotate_left; (focus (simp only [List.forall_mem_cons, List.not_mem_nil, false_imp_iff, implies_true, and_true] at hw'; simp only [List.getElem_toArray, List.getElem_cons_succ, List.getElem_cons_zero]; go_simp; first | with_reducible rfl | (simp (disch := omega) only [if_pos, if_neg, Result.andThen_ok]; try with_reducible rfl) | skip)); try simp only [List.getElem_toArray, List.getElem_cons_succ, List.getElem_cons_zero, Act.put, List.setIfInBounds_toArray, List.set_cons_zero, List.set_cons_succ]
              iterate 2 (refine planE_pure (v := ?_) rfl (by rfl) (fun w' => ?_) ?_; rotate_left; (focus (simp only [List.getElem_toArray, List.getElem_cons_succ, List.getElem_cons_zero]; go_simp; first | with_reducible rfl | (simp (disch := omega) only [if_pos, if_neg, Result.andThen_ok]; try with_reducible rfl) | skip)); try simp only [List.getElem_toArray, List.getElem_cons_succ, List.getElem_cons_zero, Act.put, List.setIfInBounds_toArray, List.set_cons_zero, List.set_cons_succ])
              refine planE_skip rfl (by rfl) ?_
              try simp only [List.getElem_toArray, List.getElem_cons_succ, List.getElem_cons_zero, Act.put, List.setIfInBounds_toArray, List.set_cons_zero, List.set_cons_succ]
              refine planE_skip rfl (by rfl) ?_
              try simp only [List.getElem_toArray, List.getElem_cons_succ, List.getElem_cons_zero, Act.put, List.setIfInBounds_toArray, List.set_cons_zero, List.set_cons_succ]
              refine planE_skip rfl (by rfl) ?_
              try simp only [List.getElem_toArray, List.getElem_cons_succ, List.getElem_cons_zero, Act.put, List.setIfInBounds_toArray, List.set_cons_zero, List.set_cons_succ]
              refine planE_skip rfl (by rfl) ?_
              try simp only [List.getElem_toArray, List.getElem_cons_succ, List.getElem_cons_zero, Act.put, List.setIfInBounds_toArray, List.set_cons_zero, List.set_cons_succ]
              refine planE_skip rfl (by rfl) ?_
              try simp only [List.getElem_toArray, List.getElem_cons_succ, List.getElem_cons_zero, Act.put, List.setIfInBounds_toArray, List.set_cons_zero, List.set_cons_succ]
              refine planE_skip rfl (by rfl) ?_
              try simp only [List.getElem_toArray, List.getElem_cons_succ, List.getElem_cons_zero, Act.put, List.setIfInBounds_toArray, List.set_cons_zero, List.set_cons_succ]
              refine planE_skip rfl (by rfl) ?_
              try simp only [List.getElem_toArray, List.getElem_cons_succ, List.getElem_cons_zero, Act.put, List.setIfInBounds_toArray, List.set_cons_zero, List.set_cons_succ]
              refine planE_skip rfl (by rfl) ?_
              try simp only [List.getElem_toArray, List.getElem_cons_succ, List.getElem_cons_zero, Act.put, List.setIfInBounds_toArray, List.set_cons_zero, List.set_cons_succ]
              refine planE_skip rfl (by rfl) ?_
              try simp only [List.getElem_toArray, List.getElem_cons_succ, List.getElem_cons_zero, Act.put, List.setIfInBounds_toArray, List.set_cons_zero, List.set_cons_succ]
              refine planE_skip rfl (by rfl) ?_
              try simp only [List.getElem_toArray, List.getElem_cons_succ, List.getElem_cons_zero, Act.put, List.setIfInBounds_toArray, List.set_cons_zero, List.set_cons_succ]
              refine planE_skip rfl (by rfl) ?_
              try simp only [List.getElem_toArray, List.getElem_cons_succ, List.getElem_cons_zero, Act.put, List.setIfInBounds_toArray, List.set_cons_zero, List.set_cons_succ]
              refine planE_skip rfl (by rfl) ?_
              try simp only [List.getElem_toArray, List.getElem_cons_succ, List.getElem_cons_zero, Act.put, List.setIfInBounds_toArray, List.set_cons_zero, List.set_cons_succ]
              refine planE_skip rfl (by rfl) ?_
              try simp only [List.getElem_toArray, List.getElem_cons_succ, List.getElem_cons_zero, Act.put, List.setIfInBounds_toArray, List.set_cons_zero, List.set_cons_succ]
              iterate 1 (refine planE_pure (v := ?_) rfl (by rfl) (fun w' => ?_) ?_; rotate_left; (focus (simp only [List.getElem_toArray, List.getElem_cons_succ, List.getElem_cons_zero]; go_simp; first | with_reducible rfl | (simp (disch := omega) only [if_pos, if_neg, Result.andThen_ok]; try with_reducible rfl) | skip)); try simp only [List.getElem_toArray, List.getElem_cons_succ, List.getElem_cons_zero, Act.put, List.setIfInBounds_toArray, List.set_cons_zero, List.set_cons_succ])
              refine planE_end ?_
              clear c0 c1 c2 c3
              go_wp2_with fail
              go_roundw
              case rel => exact ⟨k + 1, s, by omega, by omega, by go_num, hPq, hT, hB2⟩
              case measure => simp [intOf]; omega
            · have hsm : decide (1000000 < an) = false := decide_eq_false hbig
              have HNB := Lib.hid hbig
              clear hbig
              rcases passE_ways s an d with he | ⟨er, her, he, hs⟩
              · have HT2 := Lib.hid (HPASS.out s an d hT.out he)
                clear hT
                obtain ⟨s2, hs2⟩ : ∃ s2, s2 = passS s an d := ⟨_, rfl⟩
                rw [← hs2] at HT2
                have HP : Hid (∀ w', CI w.heap.size w' g s → w.heap.size ≤ w'.heap.size → Calls Try.prog 28 #[.pointer (some ⟨g, 0, none⟩), .int .i64 an, .int .u64 (d : Int)] w' fun e w'' => e = .returned (.int .i64 0) ∧ CI w.heap.size w'' g s2 ∧ Keep badC w.heap.size w' w'') := Lib.hid fun w' h hn => by
                  have := clockPass an d h hn hd
                  rw [he, ← hs2] at this
                  exact this
                have hno := HT2.out.now1
                have hno2 := HT2.out.now2
                have HE := Lib.hid (HEND.out s2 HT2.out)
                have HN1 : Hid (∀ w', CI w.heap.size w' g s2 → Calls Try.prog 27 #[.pointer (some ⟨g, 0, none⟩), .int .i64 1] w' fun e w'' => e = .returned (.tuple #[.int .i64 (s2.T 1), .int .i64 0]) ∧ w' = w'') := Lib.hid fun w' h => by
                  have := clockNow 1 h
                  rw [hno.1, hno.2] at this
                  exact this
                have HN2 : Hid (∀ w', CI w.heap.size w' g s2 → Calls Try.prog 27 #[.pointer (some ⟨g, 0, none⟩), .int .i64 2] w' fun e w'' => e = .returned (.tuple #[.int .i64 (s2.T 2), .int .i64 0]) ∧ w' = w'') := Lib.hid fun w' h => by
                  have := clockNow 2 h
                  rw [hno2.1, hno2.2] at this
                  exact this
                clear hs2 he hno hno2
                go_wp2_with fail
                refine wp_region_planE_gen (by kernel_rfl) [(0, none), (1, none), (2, none), (3, none), (4, none), (5, none), (6, none), (7, none), (8, none), (9, none), (10, none), (11, none), (12, none), (13, none), (14, none), (15, none), (16, none), (17, none), (18, some [6, 7, 12, 17]), (19, none), (20, none)] (by kernel_rfl) (by kernel_rfl) (by decide) ?_
                intro wq hwq
                have hBq : Below wr.heap.size wr wq := by rw [hwq]; exact (Below.refl _ _).drew
                have hPq := hP.below hBq
                have hB2 := hB.trans (hBq.mono hB.size)
                obtain ⟨c0, c1, c2, c3⟩ := HC.out wq hB2
                clear hwq hBq hP hB
                iterate 4 (refine planE_pure (v := ?_) rfl (by rfl) (fun w' => ?_) ?_; rotate_left; (focus (simp only [List.getElem_toArray, List.getElem_cons_succ, List.getElem_cons_zero]; go_simp; first | with_reducible rfl | (simp (disch := omega) only [if_pos, if_neg, Result.andThen_ok]; try with_reducible rfl) | skip)); try simp only [List.getElem_toArray, List.getElem_cons_succ, List.getElem_cons_zero, Act.put, List.setIfInBounds_toArray, List.set_cons_zero, List.set_cons_succ])
                refine planE_cells (v := ?_) [(⟨b, off + k * 4 + 2, none⟩, .int .i64 an)] (by simp; and_intros <;> assumption) rfl (by rfl) (fun w' hw' => ?_) ?_; rotate_left; (focus (simp only [List.forall_mem_cons, List.not_mem_nil, false_imp_iff, implies_true, and_true] at hw'; simp only [List.getElem_toArray, List.getElem_cons_succ, List.getElem_cons_zero]; go_simp; first | with_reducible rfl | (simp (disch := omega) only [if_pos, if_neg, Result.andThen_ok]; try with_reducible rfl) | skip)); try simp only [List.getElem_toArray, List.getElem_cons_succ, List.getElem_cons_zero, Act.put, List.setIfInBounds_toArray, List.set_cons_zero, List.set_cons_succ]
                iterate 7 (refine planE_pure (v := ?_) rfl (by rfl) (fun w' => ?_) ?_; rotate_left; (focus (simp only [List.getElem_toArray, List.getElem_cons_succ, List.getElem_cons_zero]; go_simp; first | with_reducible rfl | (simp (disch := omega) only [if_pos, if_neg, Result.andThen_ok]; try with_reducible rfl) | skip)); try simp only [List.getElem_toArray, List.getElem_cons_succ, List.getElem_cons_zero, Act.put, List.setIfInBounds_toArray, List.set_cons_zero, List.set_cons_succ])
                refine planE_cells (v := ?_) [(⟨b, off + k * 4 + 2, none⟩, .int .i64 an)] (by simp; and_intros <;> assumption) rfl (by rfl) (fun w' hw' => ?_) ?_; rotate_left; (focus (simp only [List.forall_mem_cons, List.not_mem_nil, false_imp_iff, implies_true, and_true] at hw'; simp only [List.getElem_toArray, List.getElem_cons_succ, List.getElem_cons_zero]; go_simp; first | with_reducible rfl | (simp (disch := omega) only [if_pos, if_neg, Result.andThen_ok]; try with_reducible rfl) | skip)); try simp only [List.getElem_toArray, List.getElem_cons_succ, List.getElem_cons_zero, Act.put, List.setIfInBounds_toArray, List.set_cons_zero, List.set_cons_succ]
                iterate 4 (refine planE_pure (v := ?_) rfl (by rfl) (fun w' => ?_) ?_; rotate_left; (focus (simp only [List.getElem_toArray, List.getElem_cons_succ, List.getElem_cons_zero]; go_simp; first | with_reducible rfl | (simp (disch := omega) only [if_pos, if_neg, Result.andThen_ok]; try with_reducible rfl) | skip)); try simp only [List.getElem_toArray, List.getElem_cons_succ, List.getElem_cons_zero, Act.put, List.setIfInBounds_toArray, List.set_cons_zero, List.set_cons_succ])
                refine planE_cells (v := ?_) [(⟨b, off + k * 4 + 3, none⟩, .int .u64 (d : Int))] (by simp; and_intros <;> assumption) rfl (by rfl) (fun w' hw' => ?_) ?_; rotate_left; (focus (simp only [List.forall_mem_cons, List.not_mem_nil, false_imp_iff, implies_true, and_true] at hw'; simp only [List.getElem_toArray, List.getElem_cons_succ, List.getElem_cons_zero]; go_simp; first | with_reducible rfl | (simp (disch := omega) only [if_pos, if_neg, Result.andThen_ok]; try with_reducible rfl) | skip)); try simp only [List.getElem_toArray, List.getElem_cons_succ, List.getElem_cons_zero, Act.put, List.setIfInBounds_toArray, List.set_cons_zero, List.set_cons_succ]
                refine planE_eff rfl (by rfl) (fun K hK => ?_)
                go_simp
                refine (HP.out _ hPq hB2.size).mono ?_
                rintro e w4 ⟨rfl, hP4, hk4⟩
                have hB4 := hB2.trans hk4.below
                clear c0 c1 c2 c3 hPq hB2 hk4
                obtain ⟨c0, c1, c2, c3⟩ := HC.out w4 hB4
                refine hK _ _ (by simp [owed, left] <;> (and_intros <;> first | trivial | assumption)) ?_
                clear hK K
                try simp only [List.getElem_toArray, List.getElem_cons_succ, List.getElem_cons_zero, Act.put, List.setIfInBounds_toArray, List.set_cons_zero, List.set_cons_succ]
                iterate 2 (refine planE_pure (v := ?_) rfl (by rfl) (fun w' => ?_) ?_; rotate_left; (focus (simp only [List.getElem_toArray, List.getElem_cons_succ, List.getElem_cons_zero]; go_simp; first | with_reducible rfl | (simp (disch := omega) only [if_pos, if_neg, Result.andThen_ok]; try with_reducible rfl) | skip)); try simp only [List.getElem_toArray, List.getElem_cons_succ, List.getElem_cons_zero, Act.put, List.setIfInBounds_toArray, List.set_cons_zero, List.set_cons_succ])
                refine planE_end ?_
                clear c0 c1 c2 c3
                go_wp2_with fail
                refine (HN1.out _ hP4).mono ?_
                rintro e w' ⟨rfl, rfl⟩
                go_wp2_with fail
                refine (HN2.out _ hP4).mono ?_
                rintro e w' ⟨rfl, rfl⟩
                by_cases htb : t ≤ s2.T 2
                · have hge := HE.out htb
                  generalize s2.T 1 = a at *
                  generalize s2.T 2 = bb at *
                  go_wp2_with fail
                  go_roundw
                  case rel => exact ⟨k + 1, s2, by omega, by omega, by go_num, hP4, HT2, hB4⟩
                  case measure => simp [intOf]; omega
                · generalize s2.T 1 = a at *
                  generalize s2.T 2 = bb at *
                  go_wp2_with fail
                  go_roundw
                  case rel => exact ⟨k + 1, s2, by omega, by omega, by go_num, hP4, HT2, hB4⟩
                  case measure => simp [intOf]; omega
              · have HP : Hid (∀ w', CI w.heap.size w' g s → w.heap.size ≤ w'.heap.size → Calls Try.prog 28 #[.pointer (some ⟨g, 0, none⟩), .int .i64 an, .int .u64 (d : Int)] w' fun e w'' => e = .returned (.int .i64 er) ∧ CI w.heap.size w'' g s ∧ Keep badC w.heap.size w' w'') := Lib.hid fun w' h hn => by
                  have := clockPass an d h hn hd
                  rw [he, hs] at this
                  exact this
                clear he hs
                rcases her with rfl | rfl
                all_goals
                  go_wp2_with fail
                  refine wp_region_planE_gen (by kernel_rfl) [(0, none), (1, none), (2, none), (3, none), (4, none), (5, none), (6, none), (7, none), (8, none), (9, none), (10, none), (11, none), (12, none), (13, none), (14, none), (15, none), (16, none), (17, none), (18, some [6, 7, 12, 17]), (19, none), (20, none)] (by kernel_rfl) (by kernel_rfl) (by decide) ?_
                  intro wq hwq
                  have hBq : Below wr.heap.size wr wq := by rw [hwq]; exact (Below.refl _ _).drew
                  have hPq := hP.below hBq
                  have hB2 := hB.trans (hBq.mono hB.size)
                  obtain ⟨c0, c1, c2, c3⟩ := HC.out wq hB2
                  clear hwq hBq hP hB
                  iterate 4 (refine planE_pure (v := ?_) rfl (by rfl) (fun w' => ?_) ?_; rotate_left; (focus (simp only [List.getElem_toArray, List.getElem_cons_succ, List.getElem_cons_zero]; go_simp; first | with_reducible rfl | (simp (disch := omega) only [if_pos, if_neg, Result.andThen_ok]; try with_reducible rfl) | skip)); try simp only [List.getElem_toArray, List.getElem_cons_succ, List.getElem_cons_zero, Act.put, List.setIfInBounds_toArray, List.set_cons_zero, List.set_cons_succ])
                  refine planE_cells (v := ?_) [(⟨b, off + k * 4 + 2, none⟩, .int .i64 an)] (by simp; and_intros <;> assumption) rfl (by rfl) (fun w' hw' => ?_) ?_; rotate_left; (focus (simp only [List.forall_mem_cons, List.not_mem_nil, false_imp_iff, implies_true, and_true] at hw'; simp only [List.getElem_toArray, List.getElem_cons_succ, List.getElem_cons_zero]; go_simp; first | with_reducible rfl | (simp (disch := omega) only [if_pos, if_neg, Result.andThen_ok]; try with_reducible rfl) | skip)); try simp only [List.getElem_toArray, List.getElem_cons_succ, List.getElem_cons_zero, Act.put, List.setIfInBounds_toArray, List.set_cons_zero, List.set_cons_succ]
                  iterate 7 (refine planE_pure (v := ?_) rfl (by rfl) (fun w' => ?_) ?_; rotate_left; (focus (simp only [List.getElem_toArray, List.getElem_cons_succ, List.getElem_cons_zero]; go_simp; first | with_reducible rfl | (simp (disch := omega) only [if_pos, if_neg, Result.andThen_ok]; try with_reducible rfl) | skip)); try simp only [List.getElem_toArray, List.getElem_cons_succ, List.getElem_cons_zero, Act.put, List.setIfInBounds_toArray, List.set_cons_zero, List.set_cons_succ])
                  refine planE_cells (v := ?_) [(⟨b, off + k * 4 + 2, none⟩, .int .i64 an)] (by simp; and_intros <;> assumption) rfl (by rfl) (fun w' hw' => ?_) ?_; rotate_left; (focus (simp only [List.forall_mem_cons, List.not_mem_nil, false_imp_iff, implies_true, and_true] at hw'; simp only [List.getElem_toArray, List.getElem_cons_succ, List.getElem_cons_zero]; go_simp; first | with_reducible rfl | (simp (disch := omega) only [if_pos, if_neg, Result.andThen_ok]; try with_reducible rfl) | skip)); try simp only [List.getElem_toArray, List.getElem_cons_succ, List.getElem_cons_zero, Act.put, List.setIfInBounds_toArray, List.set_cons_zero, List.set_cons_succ]
                  iterate 4 (refine planE_pure (v := ?_) rfl (by rfl) (fun w' => ?_) ?_; rotate_left; (focus (simp only [List.getElem_toArray, List.getElem_cons_succ, List.getElem_cons_zero]; go_simp; first | with_reducible rfl | (simp (disch := omega) only [if_pos, if_neg, Result.andThen_ok]; try with_reducible rfl) | skip)); try simp only [List.getElem_toArray, List.getElem_cons_succ, List.getElem_cons_zero, Act.put, List.setIfInBounds_toArray, List.set_cons_zero, List.set_cons_succ])
                  refine planE_cells (v := ?_) [(⟨b, off + k * 4 + 3, none⟩, .int .u64 (d : Int))] (by simp; and_intros <;> assumption) rfl (by rfl) (fun w' hw' => ?_) ?_; rotate_left; (focus (simp only [List.forall_mem_cons, List.not_mem_nil, false_imp_iff, implies_true, and_true] at hw'; simp only [List.getElem_toArray, List.getElem_cons_succ, List.getElem_cons_zero]; go_simp; first | with_reducible rfl | (simp (disch := omega) only [if_pos, if_neg, Result.andThen_ok]; try with_reducible rfl) | skip)); try simp only [List.getElem_toArray, List.getElem_cons_succ, List.getElem_cons_zero, Act.put, List.setIfInBounds_toArray, List.set_cons_zero, List.set_cons_succ]
                  refine planE_eff rfl (by rfl) (fun K hK => ?_)
                  go_simp
                  refine (HP.out _ hPq hB2.size).mono ?_
                  rintro e w4 ⟨rfl, hP4, hk4⟩
                  have hB4 := hB2.trans hk4.below
                  clear c0 c1 c2 c3 hPq hB2 hk4
                  obtain ⟨c0, c1, c2, c3⟩ := HC.out w4 hB4
                  refine hK _ _ (by simp [owed, left] <;> (and_intros <;> first | trivial | assumption)) ?_
                  clear hK K
                  try simp only [List.getElem_toArray, List.getElem_cons_succ, List.getElem_cons_zero, Act.put, List.setIfInBounds_toArray, List.set_cons_zero, List.set_cons_succ]
                  iterate 2 (refine planE_pure (v := ?_) rfl (by rfl) (fun w' => ?_) ?_; rotate_left; (focus (simp only [List.getElem_toArray, List.getElem_cons_succ, List.getElem_cons_zero]; go_simp; first | with_reducible rfl | (simp (disch := omega) only [if_pos, if_neg, Result.andThen_ok]; try with_reducible rfl) | skip)); try simp only [List.getElem_toArray, List.getElem_cons_succ, List.getElem_cons_zero, Act.put, List.setIfInBounds_toArray, List.set_cons_zero, List.set_cons_succ])
                  refine planE_end ?_
                  clear c0 c1 c2 c3
                  go_wp2_with fail
                  go_roundw
                  case rel => exact ⟨k + 1, s, by omega, by omega, by go_num, hP4, hT, hB4⟩
                  case measure => simp [intOf]; omega
          · have h2 : ¬ (k : Int) < 100 := by omega
            go_wp2_with fail
            go_ret
            exact ⟨rfl, hB⟩
        · go_wp2_with fail
          go_ret
          exact ⟨rfl, hB⟩
end Go.Proofs.Ytekkcbonkjdgeaa
