/- The law's act on any two posts. -/
import Derived.Test.YtihmnkkhccihpaaPostK
namespace Go.Proofs.Ytihmnkkhccihpaa
open Go.RowKit

section
variable {n N : Nat} {w w' : World} {g g2 : Nat} {V V2 : List Val} {C C2 : Int × Int → Bool} {room room2 : Int}
theorem AnyE.below {e : Ending} {w1 w2 : World} (h : AnyE n g g2 room room2 N w e w1) (hn : n ≤ w1.heap.size) (hb : Below w1.heap.size w1 w2) : AnyE n g g2 room room2 N w e w2 := by
  obtain ⟨r, V, C, V2, C2, rfl, p, q, b⟩ := h
  exact ⟨r, V, C, V2, C2, rfl, p.below hb, q.below hb, b.trans (hb.mono hn)⟩

set_option maxRecDepth 20000 in
set_option maxHeartbeats 8000000 in
theorem actG_copy (k a b : Int) (D : Option Addr) (c : Nat) (d : List UInt8) (h : PI n w g V C room) (r : RI n w g2 V2 C2 room2 N) (hn : n ≤ w.heap.size) (hN : N < 4096) (hr0 : room2 ≤ 4096) (ha : I64 a) (hb : I64 b) (hD : ∀ w', Below n w w' → RB w' D d) (hd : d.length ≤ 140737488351232) (hk : k = 6) :
    Calls Try.prog 19 #[.pointer (some ⟨g, 0, none⟩), .pointer (some ⟨g2, 0, none⟩), .agg #[.int .i64 k, .int .i64 a, .int .i64 b, .slice D d.length c]] w (AnyE n g g2 room room2 (N + 1) w) := by
  subst hk
  have hbw := (Below.refl w.heap.size w).alloc (Nat.le_refl _) (.cells #[.int .i64 6, .int .i64 a, .int .i64 b, .slice D d.length c] 35)
  have hX := Blk.new w #[.int .i64 6, .int .i64 a, .int .i64 b, .slice D d.length c] 35
  obtain ⟨xb, hxb⟩ : ∃ xb, xb = w.heap.size := ⟨_, rfl⟩
  rw [← hxb] at hX
  have HXB := Lib.hid hxb
  have hn1 := Nat.le_trans hn hbw.size
  have h1 := h.below hbw
  have r1 := r.below hbw
  have hB1 := hbw.mono hn
  have HD := Lib.hid hD
  have x0 := hX.cell 0 rfl
  have x1 := hX.cell 1 rfl
  have x2 := hX.cell 2 rfl
  have x3 := hX.cell 3 rfl
  clear h r hn hxb hD hbw
  go_enter Try.func19, Try.ntmps19
  go_upto_region 1 with fail
  rw [← HXB.out]
  generalize w.alloc (.cells #[.int .i64 6, .int .i64 a, .int .i64 b, .slice D d.length c] 35) = w1 at *
  go_cut [7] (fun s7 wx => s7 = .bool (okB a b) ∧ w1 = wx)
  case first =>
    cases e1 : endB a
    · have he : okB a b = false := by simp [okB, e1]
      go_wp2_with fail
      refine (refEnd a _).mono ?_
      rintro e w' ⟨rfl, rfl⟩
      rw [e1]
      go_wp2_with fail
      go_meet
      exact ⟨by rw [he], rfl⟩
    · cases e2 : endB b
      · have he : okB a b = false := by simp [okB, e2]
        go_wp2_with fail
        refine (refEnd a _).mono ?_
        rintro e w' ⟨rfl, rfl⟩
        rw [e1]
        go_wp2_with fail
        refine (refEnd b _).mono ?_
        rintro e w' ⟨rfl, rfl⟩
        rw [e2]
        go_wp2_with fail
        go_meet
        exact ⟨by rw [he], rfl⟩
      · have he : okB a b = (a != b) := by simp [okB, e1, e2, bne]; by_cases hab : a = b <;> simp [hab]
        go_wp2_with fail
        refine (refEnd a _).mono ?_
        rintro e w' ⟨rfl, rfl⟩
        rw [e1]
        go_wp2_with fail
        refine (refEnd b _).mono ?_
        rintro e w' ⟨rfl, rfl⟩
        rw [e2]
        go_wp2_with fail
        go_meet
        exact ⟨by rw [he], rfl⟩
  case rest =>
  obtain ⟨rfl, rfl⟩ := hcut
  go_wp2_with fail
  go_ret
  exact AnyE.of (r := true) h1 (r1.more (Nat.le_succ _)) hB1

set_option maxRecDepth 20000 in
set_option maxHeartbeats 8000000 in
theorem actG_look (k a b : Int) (D : Option Addr) (c : Nat) (d : List UInt8) (h : PI n w g V C room) (r : RI n w g2 V2 C2 room2 N) (hn : n ≤ w.heap.size) (hN : N < 4096) (hr0 : room2 ≤ 4096) (ha : I64 a) (hb : I64 b) (hD : ∀ w', Below n w w' → RB w' D d) (hd : d.length ≤ 140737488351232) (n1 : k ≠ 1) (n2 : k ≠ 2) (n3 : k ≠ 3) (n4 : k ≠ 4) (n5 : k ≠ 5) (n6 : k ≠ 6) :
    Calls Try.prog 19 #[.pointer (some ⟨g, 0, none⟩), .pointer (some ⟨g2, 0, none⟩), .agg #[.int .i64 k, .int .i64 a, .int .i64 b, .slice D d.length c]] w (AnyE n g g2 room room2 (N + 1) w) := by
  have k1 : (k == 1) = false := by simpa using n1
  have k2 : (k == 2) = false := by simpa using n2
  have k3 : (k == 3) = false := by simpa using n3
  have k4 : (k == 4) = false := by simpa using n4
  have k5 : (k == 5) = false := by simpa using n5
  have k6 : (k == 6) = false := by simpa using n6
  have hbw := (Below.refl w.heap.size w).alloc (Nat.le_refl _) (.cells #[.int .i64 k, .int .i64 a, .int .i64 b, .slice D d.length c] 35)
  have hX := Blk.new w #[.int .i64 k, .int .i64 a, .int .i64 b, .slice D d.length c] 35
  obtain ⟨xb, hxb⟩ : ∃ xb, xb = w.heap.size := ⟨_, rfl⟩
  rw [← hxb] at hX
  have HXB := Lib.hid hxb
  have hn1 := Nat.le_trans hn hbw.size
  have h1 := h.below hbw
  have r1 := r.below hbw
  have hB1 := hbw.mono hn
  have HD := Lib.hid hD
  have x0 := hX.cell 0 rfl
  have x1 := hX.cell 1 rfl
  have x2 := hX.cell 2 rfl
  have x3 := hX.cell 3 rfl
  have M1 := Lib.hid n1
  have M2 := Lib.hid n2
  have M3 := Lib.hid n3
  have M4 := Lib.hid n4
  have M5 := Lib.hid n5
  clear h r hn hxb hD hbw n1 n2 n3 n4 n5 n6
  go_enter Try.func19, Try.ntmps19
  go_upto_region 1 with fail
  rw [← HXB.out]
  generalize w.alloc (.cells #[.int .i64 k, .int .i64 a, .int .i64 b, .slice D d.length c] 35) = w1 at *
  go_cut [7] (fun s7 wx => s7 = .bool (okB a b) ∧ w1 = wx)
  case first =>
    cases e1 : endB a
    · have he : okB a b = false := by simp [okB, e1]
      go_wp2_with fail
      refine (refEnd a _).mono ?_
      rintro e w' ⟨rfl, rfl⟩
      rw [e1]
      go_wp2_with fail
      go_meet
      exact ⟨by rw [he], rfl⟩
    · cases e2 : endB b
      · have he : okB a b = false := by simp [okB, e2]
        go_wp2_with fail
        refine (refEnd a _).mono ?_
        rintro e w' ⟨rfl, rfl⟩
        rw [e1]
        go_wp2_with fail
        refine (refEnd b _).mono ?_
        rintro e w' ⟨rfl, rfl⟩
        rw [e2]
        go_wp2_with fail
        go_meet
        exact ⟨by rw [he], rfl⟩
      · have he : okB a b = (a != b) := by simp [okB, e1, e2, bne]; by_cases hab : a = b <;> simp [hab]
        go_wp2_with fail
        refine (refEnd a _).mono ?_
        rintro e w' ⟨rfl, rfl⟩
        rw [e1]
        go_wp2_with fail
        refine (refEnd b _).mono ?_
        rintro e w' ⟨rfl, rfl⟩
        rw [e2]
        go_wp2_with fail
        go_meet
        exact ⟨by rw [he], rfl⟩
  case rest =>
  obtain ⟨rfl, rfl⟩ := hcut
  go_wp2_with fail
  refine (lookG a h1 r1 hn1 ha).mono ?_
  rintro e w2 ⟨rr, V', C', V2', C2', rfl, h2, r2, hb2⟩
  have HF := Lib.hid (AnyE.of (r := rr) h2 (r2.more (Nat.le_succ _)) (hB1.trans hb2))
  clear h1 r1 hB1 hb2 x0 x1 x2 x3 h2 r2
  go_wp2_with fail
  go_ret
  exact HF.out

set_option maxRecDepth 20000 in
set_option maxHeartbeats 8000000 in
theorem actG_take (k a b : Int) (D : Option Addr) (c : Nat) (d : List UInt8) (h : PI n w g V C room) (r : RI n w g2 V2 C2 room2 N) (hn : n ≤ w.heap.size) (hN : N < 4096) (hr0 : room2 ≤ 4096) (ha : I64 a) (hb : I64 b) (hD : ∀ w', Below n w w' → RB w' D d) (hd : d.length ≤ 140737488351232) (hk : k = 2) :
    Calls Try.prog 19 #[.pointer (some ⟨g, 0, none⟩), .pointer (some ⟨g2, 0, none⟩), .agg #[.int .i64 k, .int .i64 a, .int .i64 b, .slice D d.length c]] w (AnyE n g g2 room room2 (N + 1) w) := by
  subst hk
  have hbw := (Below.refl w.heap.size w).alloc (Nat.le_refl _) (.cells #[.int .i64 2, .int .i64 a, .int .i64 b, .slice D d.length c] 35)
  have hX := Blk.new w #[.int .i64 2, .int .i64 a, .int .i64 b, .slice D d.length c] 35
  obtain ⟨xb, hxb⟩ : ∃ xb, xb = w.heap.size := ⟨_, rfl⟩
  rw [← hxb] at hX
  have HXB := Lib.hid hxb
  have hn1 := Nat.le_trans hn hbw.size
  have h1 := h.below hbw
  have r1 := r.below hbw
  have hB1 := hbw.mono hn
  have HD := Lib.hid hD
  have x0 := hX.cell 0 rfl
  have x1 := hX.cell 1 rfl
  have x2 := hX.cell 2 rfl
  have x3 := hX.cell 3 rfl
  clear h r hn hxb hD hbw
  go_enter Try.func19, Try.ntmps19
  go_upto_region 1 with fail
  rw [← HXB.out]
  generalize w.alloc (.cells #[.int .i64 2, .int .i64 a, .int .i64 b, .slice D d.length c] 35) = w1 at *
  go_cut [7] (fun s7 wx => s7 = .bool (okB a b) ∧ w1 = wx)
  case first =>
    cases e1 : endB a
    · have he : okB a b = false := by simp [okB, e1]
      go_wp2_with fail
      refine (refEnd a _).mono ?_
      rintro e w' ⟨rfl, rfl⟩
      rw [e1]
      go_wp2_with fail
      go_meet
      exact ⟨by rw [he], rfl⟩
    · cases e2 : endB b
      · have he : okB a b = false := by simp [okB, e2]
        go_wp2_with fail
        refine (refEnd a _).mono ?_
        rintro e w' ⟨rfl, rfl⟩
        rw [e1]
        go_wp2_with fail
        refine (refEnd b _).mono ?_
        rintro e w' ⟨rfl, rfl⟩
        rw [e2]
        go_wp2_with fail
        go_meet
        exact ⟨by rw [he], rfl⟩
      · have he : okB a b = (a != b) := by simp [okB, e1, e2, bne]; by_cases hab : a = b <;> simp [hab]
        go_wp2_with fail
        refine (refEnd a _).mono ?_
        rintro e w' ⟨rfl, rfl⟩
        rw [e1]
        go_wp2_with fail
        refine (refEnd b _).mono ?_
        rintro e w' ⟨rfl, rfl⟩
        rw [e2]
        go_wp2_with fail
        go_meet
        exact ⟨by rw [he], rfl⟩
  case rest =>
  obtain ⟨rfl, rfl⟩ := hcut
  go_wp2_with fail
  refine (takeG a h1 r1 hn1 ha).mono ?_
  rintro e w2 ⟨rr, V', C', V2', C2', rfl, h2, r2, hb2⟩
  have HF := Lib.hid (AnyE.of (r := rr) h2 (r2.more (Nat.le_succ _)) (hB1.trans hb2))
  clear h1 r1 hB1 hb2 x0 x1 x2 x3 h2 r2
  go_wp2_with fail
  go_ret
  exact HF.out

set_option maxRecDepth 20000 in
set_option maxHeartbeats 8000000 in
theorem actG_send (k a b : Int) (D : Option Addr) (c : Nat) (d : List UInt8) (h : PI n w g V C room) (r : RI n w g2 V2 C2 room2 N) (hn : n ≤ w.heap.size) (hN : N < 4096) (hr0 : room2 ≤ 4096) (ha : I64 a) (hb : I64 b) (hD : ∀ w', Below n w w' → RB w' D d) (hd : d.length ≤ 140737488351232) (hk : k = 1) :
    Calls Try.prog 19 #[.pointer (some ⟨g, 0, none⟩), .pointer (some ⟨g2, 0, none⟩), .agg #[.int .i64 k, .int .i64 a, .int .i64 b, .slice D d.length c]] w (AnyE n g g2 room room2 (N + 1) w) := by
  subst hk
  have hbw := (Below.refl w.heap.size w).alloc (Nat.le_refl _) (.cells #[.int .i64 1, .int .i64 a, .int .i64 b, .slice D d.length c] 35)
  have hX := Blk.new w #[.int .i64 1, .int .i64 a, .int .i64 b, .slice D d.length c] 35
  obtain ⟨xb, hxb⟩ : ∃ xb, xb = w.heap.size := ⟨_, rfl⟩
  rw [← hxb] at hX
  have HXB := Lib.hid hxb
  have hn1 := Nat.le_trans hn hbw.size
  have h1 := h.below hbw
  have r1 := r.below hbw
  have hB1 := hbw.mono hn
  have HD := Lib.hid hD
  have x0 := hX.cell 0 rfl
  have x1 := hX.cell 1 rfl
  have x2 := hX.cell 2 rfl
  have x3 := hX.cell 3 rfl
  clear h r hn hxb hD hbw
  go_enter Try.func19, Try.ntmps19
  go_upto_region 1 with fail
  rw [← HXB.out]
  generalize w.alloc (.cells #[.int .i64 1, .int .i64 a, .int .i64 b, .slice D d.length c] 35) = w1 at *
  go_cut [7] (fun s7 wx => s7 = .bool (okB a b) ∧ w1 = wx)
  case first =>
    cases e1 : endB a
    · have he : okB a b = false := by simp [okB, e1]
      go_wp2_with fail
      refine (refEnd a _).mono ?_
      rintro e w' ⟨rfl, rfl⟩
      rw [e1]
      go_wp2_with fail
      go_meet
      exact ⟨by rw [he], rfl⟩
    · cases e2 : endB b
      · have he : okB a b = false := by simp [okB, e2]
        go_wp2_with fail
        refine (refEnd a _).mono ?_
        rintro e w' ⟨rfl, rfl⟩
        rw [e1]
        go_wp2_with fail
        refine (refEnd b _).mono ?_
        rintro e w' ⟨rfl, rfl⟩
        rw [e2]
        go_wp2_with fail
        go_meet
        exact ⟨by rw [he], rfl⟩
      · have he : okB a b = (a != b) := by simp [okB, e1, e2, bne]; by_cases hab : a = b <;> simp [hab]
        go_wp2_with fail
        refine (refEnd a _).mono ?_
        rintro e w' ⟨rfl, rfl⟩
        rw [e1]
        go_wp2_with fail
        refine (refEnd b _).mono ?_
        rintro e w' ⟨rfl, rfl⟩
        rw [e2]
        go_wp2_with fail
        go_meet
        exact ⟨by rw [he], rfl⟩
  case rest =>
  obtain ⟨rfl, rfl⟩ := hcut
  go_wp2_with fail
  refine wp_region_planE_gen (by kernel_rfl) [(0, none), (1, none), (2, none), (3, none), (4, none), (6, none), (7, none), (10, none), (11, none), (12, none), (13, none), (14, none), (15, none), (16, none), (5, some []), (8, some [7]), (9, some [0, 2, 4]), (17, some [10, 12, 14, 16]), (18, none), (19, none)] (by kernel_rfl) (by kernel_rfl) (by decide) ?_
  intro wq hwq
  have hbq : Below w1.heap.size w1 wq := by rw [hwq]; exact (Below.refl _ _).drew
  have hBq := hB1.trans (hbq.mono hn1)
  have hPq := h1.below hbq
  have hRq := r1.below hbq
  have hXq := hX.kept hbq
  have hnq := Nat.le_trans hn1 hbq.size
  clear x0 x1 x2 x3 hwq hbq h1 r1 hX hB1 hn1
  have x1 := hXq.cell 1 rfl
  have x2 := hXq.cell 2 rfl
  have x3 := hXq.cell 3 rfl
  iterate 2 (refine planE_pure (v := ?_) rfl (by rfl) (fun w' => ?_) ?_; rotate_left; (focus (simp only [List.getElem_toArray, List.getElem_cons_succ, List.getElem_cons_zero]; go_simp; first | with_reducible rfl | (simp (disch := omega) only [if_pos, if_neg, Result.andThen_ok]; try with_reducible rfl) | skip)); try simp only [List.getElem_toArray, List.getElem_cons_succ, List.getElem_cons_zero, Act.put, List.setIfInBounds_toArray, List.set_cons_zero, List.set_cons_succ])
  refine planE_cells (v := ?_) [(⟨xb, 1, none⟩, .int .i64 a)] (by simp; and_intros <;> assumption) rfl (by rfl) (fun w' hw' => ?_) ?_; rotate_left; (focus (simp only [List.forall_mem_cons, List.not_mem_nil, false_imp_iff, implies_true, and_true] at hw'; simp only [List.getElem_toArray, List.getElem_cons_succ, List.getElem_cons_zero]; go_simp; first | with_reducible rfl | (simp (disch := omega) only [if_pos, if_neg, Result.andThen_ok]; try with_reducible rfl) | skip)); try simp only [List.getElem_toArray, List.getElem_cons_succ, List.getElem_cons_zero, Act.put, List.setIfInBounds_toArray, List.set_cons_zero, List.set_cons_succ]
  iterate 1 (refine planE_pure (v := ?_) rfl (by rfl) (fun w' => ?_) ?_; rotate_left; (focus (simp only [List.getElem_toArray, List.getElem_cons_succ, List.getElem_cons_zero]; go_simp; first | with_reducible rfl | (simp (disch := omega) only [if_pos, if_neg, Result.andThen_ok]; try with_reducible rfl) | skip)); try simp only [List.getElem_toArray, List.getElem_cons_succ, List.getElem_cons_zero, Act.put, List.setIfInBounds_toArray, List.set_cons_zero, List.set_cons_succ])
  refine planE_cells (v := ?_) [(⟨xb, 2, none⟩, .int .i64 b)] (by simp; and_intros <;> assumption) rfl (by rfl) (fun w' hw' => ?_) ?_; rotate_left; (focus (simp only [List.forall_mem_cons, List.not_mem_nil, false_imp_iff, implies_true, and_true] at hw'; simp only [List.getElem_toArray, List.getElem_cons_succ, List.getElem_cons_zero]; go_simp; first | with_reducible rfl | (simp (disch := omega) only [if_pos, if_neg, Result.andThen_ok]; try with_reducible rfl) | skip)); try simp only [List.getElem_toArray, List.getElem_cons_succ, List.getElem_cons_zero, Act.put, List.setIfInBounds_toArray, List.set_cons_zero, List.set_cons_succ]
  iterate 1 (refine planE_pure (v := ?_) rfl (by rfl) (fun w' => ?_) ?_; rotate_left; (focus (simp only [List.getElem_toArray, List.getElem_cons_succ, List.getElem_cons_zero]; go_simp; first | with_reducible rfl | (simp (disch := omega) only [if_pos, if_neg, Result.andThen_ok]; try with_reducible rfl) | skip)); try simp only [List.getElem_toArray, List.getElem_cons_succ, List.getElem_cons_zero, Act.put, List.setIfInBounds_toArray, List.set_cons_zero, List.set_cons_succ])
  refine planE_cells (v := ?_) [(⟨xb, 3, none⟩, .slice D d.length c)] (by simp; and_intros <;> assumption) rfl (by rfl) (fun w' hw' => ?_) ?_; rotate_left; (focus (simp only [List.forall_mem_cons, List.not_mem_nil, false_imp_iff, implies_true, and_true] at hw'; simp only [List.getElem_toArray, List.getElem_cons_succ, List.getElem_cons_zero]; go_simp; first | with_reducible rfl | (simp (disch := omega) only [if_pos, if_neg, Result.andThen_ok]; try with_reducible rfl) | skip)); try simp only [List.getElem_toArray, List.getElem_cons_succ, List.getElem_cons_zero, Act.put, List.setIfInBounds_toArray, List.set_cons_zero, List.set_cons_succ]
  iterate 2 (refine planE_pure (v := ?_) rfl (by rfl) (fun w' => ?_) ?_; rotate_left; (focus (simp only [List.getElem_toArray, List.getElem_cons_succ, List.getElem_cons_zero]; go_simp; first | with_reducible rfl | (simp (disch := omega) only [if_pos, if_neg, Result.andThen_ok]; try with_reducible rfl) | skip)); try simp only [List.getElem_toArray, List.getElem_cons_succ, List.getElem_cons_zero, Act.put, List.setIfInBounds_toArray, List.set_cons_zero, List.set_cons_succ])
  refine planE_cells (v := ?_) [(⟨xb, 1, none⟩, .int .i64 a)] (by simp; and_intros <;> assumption) rfl (by rfl) (fun w' hw' => ?_) ?_; rotate_left; (focus (simp only [List.forall_mem_cons, List.not_mem_nil, false_imp_iff, implies_true, and_true] at hw'; simp only [List.getElem_toArray, List.getElem_cons_succ, List.getElem_cons_zero]; go_simp; first | with_reducible rfl | (simp (disch := omega) only [if_pos, if_neg, Result.andThen_ok]; try with_reducible rfl) | skip)); try simp only [List.getElem_toArray, List.getElem_cons_succ, List.getElem_cons_zero, Act.put, List.setIfInBounds_toArray, List.set_cons_zero, List.set_cons_succ]
  iterate 1 (refine planE_pure (v := ?_) rfl (by rfl) (fun w' => ?_) ?_; rotate_left; (focus (simp only [List.getElem_toArray, List.getElem_cons_succ, List.getElem_cons_zero]; go_simp; first | with_reducible rfl | (simp (disch := omega) only [if_pos, if_neg, Result.andThen_ok]; try with_reducible rfl) | skip)); try simp only [List.getElem_toArray, List.getElem_cons_succ, List.getElem_cons_zero, Act.put, List.setIfInBounds_toArray, List.set_cons_zero, List.set_cons_succ])
  refine planE_cells (v := ?_) [(⟨xb, 2, none⟩, .int .i64 b)] (by simp; and_intros <;> assumption) rfl (by rfl) (fun w' hw' => ?_) ?_; rotate_left; (focus (simp only [List.forall_mem_cons, List.not_mem_nil, false_imp_iff, implies_true, and_true] at hw'; simp only [List.getElem_toArray, List.getElem_cons_succ, List.getElem_cons_zero]; go_simp; first | with_reducible rfl | (simp (disch := omega) only [if_pos, if_neg, Result.andThen_ok]; try with_reducible rfl) | skip)); try simp only [List.getElem_toArray, List.getElem_cons_succ, List.getElem_cons_zero, Act.put, List.setIfInBounds_toArray, List.set_cons_zero, List.set_cons_succ]
  iterate 1 (refine planE_pure (v := ?_) rfl (by rfl) (fun w' => ?_) ?_; rotate_left; (focus (simp only [List.getElem_toArray, List.getElem_cons_succ, List.getElem_cons_zero]; go_simp; first | with_reducible rfl | (simp (disch := omega) only [if_pos, if_neg, Result.andThen_ok]; try with_reducible rfl) | skip)); try simp only [List.getElem_toArray, List.getElem_cons_succ, List.getElem_cons_zero, Act.put, List.setIfInBounds_toArray, List.set_cons_zero, List.set_cons_succ])
  refine planE_cells (v := ?_) [(⟨xb, 3, none⟩, .slice D d.length c)] (by simp; and_intros <;> assumption) rfl (by rfl) (fun w' hw' => ?_) ?_; rotate_left; (focus (simp only [List.forall_mem_cons, List.not_mem_nil, false_imp_iff, implies_true, and_true] at hw'; simp only [List.getElem_toArray, List.getElem_cons_succ, List.getElem_cons_zero]; go_simp; first | with_reducible rfl | (simp (disch := omega) only [if_pos, if_neg, Result.andThen_ok]; try with_reducible rfl) | skip)); try simp only [List.getElem_toArray, List.getElem_cons_succ, List.getElem_cons_zero, Act.put, List.setIfInBounds_toArray, List.set_cons_zero, List.set_cons_succ]
  refine planE_eff rfl (by rfl) (fun K hK => ?_)
  go_simp
  have hb2 : Below wq.heap.size wq (wq.alloc (.cells #[] 5)) := (Below.refl _ _).alloc (Nat.le_refl _) _
  have hO2 := OB.made0 wq (Nat.le_refl _)
  have hD2 := HD.out _ (hBq.trans (hb2.mono hnq))
  have hX2 := hXq.kept hb2
  clear x1 x2 x3
  have x1 := hX2.cell 1 rfl
  have x2 := hX2.cell 2 rfl
  have x3 := hX2.cell 3 rfl
  refine hK _ _ (by simp [owed, left] <;> (and_intros <;> first | trivial | assumption)) ?_
  clear hK K
  try simp only [List.getElem_toArray, List.getElem_cons_succ, List.getElem_cons_zero, Act.put, List.setIfInBounds_toArray, List.set_cons_zero, List.set_cons_succ]
  refine planE_eff rfl (by rfl) (fun K hK => ?_)
  refine op_appendB _ (.tmp 38) (.tmp 40) (by rfl) wq.heap.size _ D 0 c [] d (by rfl) (by rfl) hO2 hD2 (by simp; omega) hb2.size ?_
  intro d' D' c' w3 hd3 hd1 hd2 ho3 hg3
  have hb3 : Below wq.heap.size wq w3 := hb2.grown hg3 (by simp) (by simp [Value.ownBlock])
  have hB3 := hBq.trans (hb3.mono hnq)
  have hP3 := hPq.below hb3
  have hR3 := hRq.below hb3
  have hX3 := hXq.kept hb3
  have hn3 : n ≤ w3.heap.size := Nat.le_trans hnq hb3.size
  have hd' : Hid (d' = d) := Lib.hid (by simpa using hd3.out)
  clear x1 x2 x3 hO2 hD2 hd3 hg3 hb3 hBq hPq hRq hXq hX2 hb2 hnq
  have x1 := hX3.cell 1 rfl
  have x2 := hX3.cell 2 rfl
  have x3 := hX3.cell 3 rfl
  refine hK _ _ (by simp [owed, left] <;> (and_intros <;> first | trivial | assumption)) ?_
  clear hK K
  try simp only [List.getElem_toArray, List.getElem_cons_succ, List.getElem_cons_zero, Act.put, List.setIfInBounds_toArray, List.set_cons_zero, List.set_cons_succ]
  refine planE_eff rfl (by rfl) (fun K hK => ?_)
  go_simp
  refine (postSendI a b D' c' d' hP3 hn3 ho3.rb).mono ?_
  rintro e w4 ⟨rfl, hP4, hK4⟩
  rw [hd'.out] at hP4 ⊢
  have hR4 := hR3.tm hK4.tm
  have hB4 := hB3.trans hK4.below
  have hX4 := hX3.tm hK4.tm (by simp [badP])
  have hn4 := Nat.le_trans hn3 hK4.tm.size
  clear x1 x2 x3 hP3 hR3 hX3 hK4 ho3 hB3 hd1 hd2
  have x1 := hX4.cell 1 rfl
  have x2 := hX4.cell 2 rfl
  have x3 := hX4.cell 3 rfl
  refine hK _ _ (by simp [owed, left] <;> (and_intros <;> first | trivial | assumption)) ?_
  clear hK K
  try simp only [List.getElem_toArray, List.getElem_cons_succ, List.getElem_cons_zero, Act.put, List.setIfInBounds_toArray, List.set_cons_zero, List.set_cons_succ]
  refine planE_eff rfl (by rfl) (fun K hK => ?_)
  go_simp
  refine (refSendI a b D c d hR4 hr0 hn4 (HD.out _ hB4)).mono ?_
  rintro e w5 ⟨rfl, hR5, hK5⟩
  have HF := fun r => Lib.hid (AnyE.of (r := r) (hP4.tm hK5.tm) (hR5.more (Nat.le_succ _)) (hB4.trans hK5.below))
  clear x1 x2 x3 hP4 hR4 hR5 hK5 hB4 hX4
  generalize sendErr V C room a b d = er at *
  generalize sendErr V2 C2 room2 a b d = er2 at *
  refine hK _ _ (by simp [owed, left] <;> (and_intros <;> first | trivial | assumption)) ?_
  clear hK K
  try simp only [List.getElem_toArray, List.getElem_cons_succ, List.getElem_cons_zero, Act.put, List.setIfInBounds_toArray, List.set_cons_zero, List.set_cons_succ]
  iterate 2 (refine planE_pure (v := ?_) rfl (by rfl) (fun w' => ?_) ?_; rotate_left; (focus (simp only [List.getElem_toArray, List.getElem_cons_succ, List.getElem_cons_zero]; go_simp; first | with_reducible rfl | (simp (disch := omega) only [if_pos, if_neg, Result.andThen_ok]; try with_reducible rfl) | skip)); try simp only [List.getElem_toArray, List.getElem_cons_succ, List.getElem_cons_zero, Act.put, List.setIfInBounds_toArray, List.set_cons_zero, List.set_cons_succ])
  refine planE_end ?_
  go_wp2_with fail
  go_ret
  exact (HF _).out

set_option maxRecDepth 20000 in
set_option maxHeartbeats 8000000 in
theorem actG_twin (k a b : Int) (D : Option Addr) (c : Nat) (d : List UInt8) (h : PI n w g V C room) (r : RI n w g2 V2 C2 room2 N) (hn : n ≤ w.heap.size) (hN : N < 4096) (hr0 : room2 ≤ 4096) (ha : I64 a) (hb : I64 b) (hD : ∀ w', Below n w w' → RB w' D d) (hd : d.length ≤ 140737488351232) (hk : k = 3) :
    Calls Try.prog 19 #[.pointer (some ⟨g, 0, none⟩), .pointer (some ⟨g2, 0, none⟩), .agg #[.int .i64 k, .int .i64 a, .int .i64 b, .slice D d.length c]] w (AnyE n g g2 room room2 (N + 1) w) := by
  subst hk
  have hbw := (Below.refl w.heap.size w).alloc (Nat.le_refl _) (.cells #[.int .i64 3, .int .i64 a, .int .i64 b, .slice D d.length c] 35)
  have hX := Blk.new w #[.int .i64 3, .int .i64 a, .int .i64 b, .slice D d.length c] 35
  obtain ⟨xb, hxb⟩ : ∃ xb, xb = w.heap.size := ⟨_, rfl⟩
  rw [← hxb] at hX
  have HXB := Lib.hid hxb
  have hn1 := Nat.le_trans hn hbw.size
  have h1 := h.below hbw
  have r1 := r.below hbw
  have hB1 := hbw.mono hn
  have HD := Lib.hid hD
  have x0 := hX.cell 0 rfl
  have x1 := hX.cell 1 rfl
  have x2 := hX.cell 2 rfl
  have x3 := hX.cell 3 rfl
  clear h r hn hxb hD hbw
  go_enter Try.func19, Try.ntmps19
  go_upto_region 1 with fail
  rw [← HXB.out]
  generalize w.alloc (.cells #[.int .i64 3, .int .i64 a, .int .i64 b, .slice D d.length c] 35) = w1 at *
  go_cut [7] (fun s7 wx => s7 = .bool (okB a b) ∧ w1 = wx)
  case first =>
    cases e1 : endB a
    · have he : okB a b = false := by simp [okB, e1]
      go_wp2_with fail
      refine (refEnd a _).mono ?_
      rintro e w' ⟨rfl, rfl⟩
      rw [e1]
      go_wp2_with fail
      go_meet
      exact ⟨by rw [he], rfl⟩
    · cases e2 : endB b
      · have he : okB a b = false := by simp [okB, e2]
        go_wp2_with fail
        refine (refEnd a _).mono ?_
        rintro e w' ⟨rfl, rfl⟩
        rw [e1]
        go_wp2_with fail
        refine (refEnd b _).mono ?_
        rintro e w' ⟨rfl, rfl⟩
        rw [e2]
        go_wp2_with fail
        go_meet
        exact ⟨by rw [he], rfl⟩
      · have he : okB a b = (a != b) := by simp [okB, e1, e2, bne]; by_cases hab : a = b <;> simp [hab]
        go_wp2_with fail
        refine (refEnd a _).mono ?_
        rintro e w' ⟨rfl, rfl⟩
        rw [e1]
        go_wp2_with fail
        refine (refEnd b _).mono ?_
        rintro e w' ⟨rfl, rfl⟩
        rw [e2]
        go_wp2_with fail
        go_meet
        exact ⟨by rw [he], rfl⟩
  case rest =>
  obtain ⟨rfl, rfl⟩ := hcut
  go_wp2_with fail
  refine (postTwinI a h1 hn1 ha).mono ?_
  rintro e w2 ⟨rfl, hP2, hK2⟩
  generalize twinErr V room a = te at *
  have hR2 := r1.tm hK2.tm
  have hX2 := hX.tm hK2.tm (by simp [badP])
  have hB2 := hB1.trans hK2.below
  have hn2 := Nat.le_trans hn1 hK2.tm.size
  clear x0 x1 x2 x3 h1 r1 hX hB1 hK2 hn1
  have x1 := hX2.cell 1 rfl
  have R0 := Lib.hid hR2
  obtain ⟨R, A, cap, Cs, B, capB, h2, hfr, hV, hCn, hC, hCN⟩ := hR2
  have hRV : R.length = V2.length := by rw [← hV, List.length_map]
  have c0 := h2.blk.cell 0 rfl
  have c1 := h2.blk.cell 1 rfl
  have hfl := h2.fits.1
  by_cases ha0 : a < 0
  · have HF := fun r => Lib.hid (AnyE.of (r := r) hP2 (R0.out.more (Nat.le_succ _)) hB2)
    clear hP2 hB2 h2 hfr hV hCn hC hCN R0
    go_wp2_with fail
    go_quiet (fail)
    go_wp2_with fail
    go_ret
    exact (HF _).out.below hn2 (by first | exact below_drewN (Below.refl _ _) _ | exact below_drewN (below_drewN (Below.refl _ _) _) _)
  by_cases ha1 : (R.length : Int) ≤ a
  · have HF := fun r => Lib.hid (AnyE.of (r := r) hP2 (R0.out.more (Nat.le_succ _)) hB2)
    clear hP2 hB2 h2 hfr hV hCn hC hCN R0
    go_wp2_with fail
    go_quiet (fail)
    go_wp2_with fail
    go_ret
    exact (HF _).out.below hn2 (by first | exact below_drewN (Below.refl _ _) _ | exact below_drewN (below_drewN (Below.refl _ _) _) _)
  by_cases hrm : room2 ≤ (R.length : Int)
  · have HF := fun r => Lib.hid (AnyE.of (r := r) hP2 (R0.out.more (Nat.le_succ _)) hB2)
    clear hP2 hB2 h2 hfr hV hCn hC hCN R0
    go_wp2_with fail
    go_quiet (fail)
    go_wp2_with fail
    go_quiet (fail)
    go_wp2_with fail
    go_ret
    exact (HF _).out.below hn2 (by first | exact below_drewN (Below.refl _ _) _ | exact below_drewN (below_drewN (Below.refl _ _) _) _)
  obtain ⟨j, rfl⟩ : ∃ j : Nat, a = (j : Int) := ⟨a.toNat, by omega⟩
  have hjR : j < R.length := by omega
  obtain ⟨bb, rfl⟩ := h2.row.head (by simpa using (show 0 < R.length by omega))
  have hg := fun (k : Nat) (v : Value) (hk : R[j].cells[k]? = some v) => h2.row.rs.get (i := j) (cs := R[j].cells) (by simp [hjR]) k (v := v) hk
  have r0 := hg 0 (.int .i64 R[j].f) (by simp [Ltr.cells])
  have r1 := hg 1 (.int .i64 R[j].t) (by simp [Ltr.cells])
  have r2 := hg 2 (.slice R[j].A R[j].d.length R[j].c) (by simp [Ltr.cells])
  have hdat := h2.data _ (List.getElem_mem hjR)
  have hdf := hfr.2.2.2 _ (List.getElem_mem hjR)
  simp only [Nat.zero_add, Nat.add_zero] at r0 r1 r2
  have HDAT : Hid (∀ w', Below w2.heap.size w2 w' → w'.cell? ⟨xb, 1, none⟩ = some (.int .i64 (j : Int)) ∧ w'.cell? ⟨g2, 1, none⟩ = some (.slice (some ⟨bb, 0, none⟩) R.length cap) ∧ w'.cell? ⟨bb, j * 3, none⟩ = some (.int .i64 R[j].f) ∧ w'.cell? ⟨bb, j * 3 + 1, none⟩ = some (.int .i64 R[j].t) ∧ w'.cell? ⟨bb, j * 3 + 2, none⟩ = some (.slice R[j].A R[j].d.length R[j].c)) := Lib.hid fun w' hb => by
    have hg' := fun (k : Nat) (v : Value) (hk : R[j].cells[k]? = some v) => (h2.below hb).row.rs.get (i := j) (cs := R[j].cells) (by simp [hjR]) k (v := v) hk
    exact ⟨(hX2.kept hb).cell 1 rfl, (h2.below hb).blk.cell 1 rfl, by simpa using hg' 0 (.int .i64 R[j].f) (by simp [Ltr.cells]), by simpa using hg' 1 (.int .i64 R[j].t) (by simp [Ltr.cells]), by simpa using hg' 2 (.slice R[j].A R[j].d.length R[j].c) (by simp [Ltr.cells])⟩
  generalize R[j].f = f at *
  generalize R[j].t = t at *
  generalize R[j].A = DA at *
  generalize R[j].c = dc at *
  generalize R[j].d = da at *
  clear hg hRV
  go_wp2_with fail
  go_quiet (fail)
  go_wp2_with fail
  go_quiet (fail)
  go_wp2_with fail
  refine wp_region_planE_gen (by kernel_rfl) [(0, none), (1, none), (2, none), (3, none), (4, none), (5, none), (6, none), (7, none), (8, some []), (9, some [0, 1, 2, 3, 4, 5, 6, 7])] (by kernel_rfl) (by kernel_rfl) (by decide) ?_
  intro wq hwq
  have hbq : Below w2.heap.size w2 wq := by rw [hwq]; exact (below_drewN (below_drewN (Below.refl _ _) _) _).drew
  clear x1 c0 c1 r0 r1 r2 hwq
  obtain ⟨x1, c1, r0, r1, r2⟩ := HDAT.out _ hbq
  iterate 3 (refine planE_pure (v := ?_) rfl (by rfl) (fun w' => ?_) ?_; rotate_left; (focus (simp only [List.getElem_toArray, List.getElem_cons_succ, List.getElem_cons_zero]; go_simp; first | with_reducible rfl | (simp (disch := omega) only [if_pos, if_neg, Result.andThen_ok]; try with_reducible rfl) | skip)); try simp only [List.getElem_toArray, List.getElem_cons_succ, List.getElem_cons_zero, Act.put, List.setIfInBounds_toArray, List.set_cons_zero, List.set_cons_succ])
  refine planE_cells (v := ?_) [(⟨g2, 1, none⟩, .slice (some ⟨bb, 0, none⟩) R.length cap)] (by simp; and_intros <;> assumption) rfl (by rfl) (fun w' hw' => ?_) ?_; rotate_left; (focus (simp only [List.forall_mem_cons, List.not_mem_nil, false_imp_iff, implies_true, and_true] at hw'; simp only [List.getElem_toArray, List.getElem_cons_succ, List.getElem_cons_zero]; go_simp; first | with_reducible rfl | (simp (disch := omega) only [if_pos, if_neg, Result.andThen_ok]; try with_reducible rfl) | skip)); try simp only [List.getElem_toArray, List.getElem_cons_succ, List.getElem_cons_zero, Act.put, List.setIfInBounds_toArray, List.set_cons_zero, List.set_cons_succ]
  iterate 1 (refine planE_pure (v := ?_) rfl (by rfl) (fun w' => ?_) ?_; rotate_left; (focus (simp only [List.getElem_toArray, List.getElem_cons_succ, List.getElem_cons_zero]; go_simp; first | with_reducible rfl | (simp (disch := omega) only [if_pos, if_neg, Result.andThen_ok]; try with_reducible rfl) | skip)); try simp only [List.getElem_toArray, List.getElem_cons_succ, List.getElem_cons_zero, Act.put, List.setIfInBounds_toArray, List.set_cons_zero, List.set_cons_succ])
  refine planE_cells (v := ?_) [(⟨xb, 1, none⟩, .int .i64 (j : Int))] (by simp; and_intros <;> assumption) rfl (by rfl) (fun w' hw' => ?_) ?_; rotate_left; (focus (simp only [List.forall_mem_cons, List.not_mem_nil, false_imp_iff, implies_true, and_true] at hw'; simp only [List.getElem_toArray, List.getElem_cons_succ, List.getElem_cons_zero]; go_simp; first | with_reducible rfl | (simp (disch := omega) only [if_pos, if_neg, Result.andThen_ok]; try with_reducible rfl) | skip)); try simp only [List.getElem_toArray, List.getElem_cons_succ, List.getElem_cons_zero, Act.put, List.setIfInBounds_toArray, List.set_cons_zero, List.set_cons_succ]
  iterate 1 (refine planE_pure (v := ?_) rfl (by rfl) (fun w' => ?_) ?_; rotate_left; (focus (simp only [List.getElem_toArray, List.getElem_cons_succ, List.getElem_cons_zero]; go_simp; first | with_reducible rfl | (simp (disch := omega) only [if_pos, if_neg, Result.andThen_ok]; try with_reducible rfl) | skip)); try simp only [List.getElem_toArray, List.getElem_cons_succ, List.getElem_cons_zero, Act.put, List.setIfInBounds_toArray, List.set_cons_zero, List.set_cons_succ])
  refine planE_cells (v := ?_) [(⟨bb, j * 3, none⟩, .int .i64 f), (⟨bb, j * 3 + 1, none⟩, .int .i64 t), (⟨bb, j * 3 + 2, none⟩, .slice DA da.length dc)] (by simp; and_intros <;> assumption) rfl (by rfl) (fun w' hw' => ?_) ?_; rotate_left; (focus (simp only [List.forall_mem_cons, List.not_mem_nil, false_imp_iff, implies_true, and_true] at hw'; simp only [List.getElem_toArray, List.getElem_cons_succ, List.getElem_cons_zero]; go_simp; first | with_reducible rfl | (simp (disch := omega) only [if_pos, if_neg, Result.andThen_ok]; try with_reducible rfl) | skip)); try simp only [List.getElem_toArray, List.getElem_cons_succ, List.getElem_cons_zero, Act.put, List.setIfInBounds_toArray, List.set_cons_zero, List.set_cons_succ]
  refine planE_eff rfl (by rfl) (fun K hK => ?_)
  go_simp
  have hb3 := hbq.alloc hbq.size (.cells #[.int .i64 0, .int .i64 0, .slice none 0 0] 68)
  have hL3 := Blk.new wq #[.int .i64 0, .int .i64 0, .slice none 0 0] 68
  have hf3 := Lib.hid (hbq.size)
  obtain ⟨lb, hlb⟩ : ∃ lb, lb = wq.heap.size := ⟨_, rfl⟩
  rw [← hlb] at hL3 hf3 ⊢
  generalize wq.alloc (.cells #[.int .i64 0, .int .i64 0, .slice none 0 0] 68) = w3 at *
  clear x1 c1 r0 r1 r2 hbq hlb
  obtain ⟨x1, c1, r0, r1, r2⟩ := HDAT.out _ hb3
  have f0 := hL3.free 0
  have f1 := hL3.free 1
  have f2 := hL3.free 2
  refine hK _ _ (by simp [owed, left] <;> (and_intros <;> first | trivial | assumption)) ?_
  clear hK K
  try simp only [List.getElem_toArray, List.getElem_cons_succ, List.getElem_cons_zero, Act.put, List.setIfInBounds_toArray, List.set_cons_zero, List.set_cons_succ]
  refine planE_eff rfl (by rfl) (fun K hK => ?_)
  go_simp
  have y0 := hL3.cell 0 rfl
  have k1 := hL3.setCell 0 (.int .i64 f)
  have y1 := k1.cell 1 rfl
  have z1 := k1.free 1
  have k2 := k1.setCell 1 (.int .i64 t)
  have y2 := k2.cell 2 rfl
  have z2 := k2.free 2
  have hL6 := k2.setCell 2 (.slice DA da.length dc)
  have hb6 := ((hb3.setCell (p := ⟨lb, 0, none⟩) (by simpa using hf3.out) (.int .i64 f)).setCell (p := ⟨lb, 1, none⟩) (by simpa using hf3.out) (.int .i64 t)).setCell (p := ⟨lb, 2, none⟩) (by simpa using hf3.out) (.slice DA da.length dc)
  simp only [y0, Result.andThen_ok, y1, z1, y2, z2, Bool.false_eq_true, if_false]
  go_simp
  rw [show ((#[.int .i64 0, .int .i64 0, .slice none 0 0] : Array Value).setIfInBounds 0 (.int .i64 f)).setIfInBounds 1 (.int .i64 t) = #[.int .i64 f, .int .i64 t, .slice none 0 0] from rfl, show (#[.int .i64 f, .int .i64 t, .slice none 0 0] : Array Value).setIfInBounds 2 (.slice DA da.length dc) = #[.int .i64 f, .int .i64 t, .slice DA da.length dc] from rfl] at hL6
  clear y0 k1 y1 z1 k2 y2 z2 f0 f1 f2 x1 c1 r0 r1 r2
  generalize ((w3.setCell ⟨lb, 0, none⟩ (.int .i64 f)).setCell ⟨lb, 1, none⟩ (.int .i64 t)).setCell ⟨lb, 2, none⟩ (.slice DA da.length dc) = w6 at *
  clear hb3 hL3
  obtain ⟨x1, c1, r0, r1, r2⟩ := HDAT.out _ hb6
  refine hK _ _ (by simp [owed, left] <;> (and_intros <;> first | trivial | assumption)) ?_
  clear hK K
  try simp only [List.getElem_toArray, List.getElem_cons_succ, List.getElem_cons_zero, Act.put, List.setIfInBounds_toArray, List.set_cons_zero, List.set_cons_succ]
  refine planE_end ?_
  have l0 := hL6.cell 0 rfl
  have l1 := hL6.cell 1 rfl
  have l2 := hL6.cell 2 rfl
  clear x1 r0 r1 r2
  go_wp2_with fail
  refine wp_region_planE_gen (by kernel_rfl) [(0, none), (1, none), (2, none), (3, none), (4, none), (5, none), (6, some [5]), (7, some [4]), (8, none), (9, none), (10, some [0, 1, 2, 3, 4, 5, 9])] (by kernel_rfl) (by kernel_rfl) (by decide) ?_
  intro wq hwq
  have hb7 : Below w6.heap.size w6 wq := by rw [hwq]; exact (Below.refl _ _).drew
  have hB7 := hb6.trans (hb7.mono hb6.size)
  have hL7 := hL6.kept hb7
  clear hwq l0 l1 l2 c1 hb7 hb6 hL6
  obtain ⟨_, c1, _, _, _⟩ := HDAT.out _ hB7
  have l0 := hL7.cell 0 rfl
  have l1 := hL7.cell 1 rfl
  have l2 := hL7.cell 2 rfl
  iterate 4 (refine planE_pure (v := ?_) rfl (by rfl) (fun w' => ?_) ?_; rotate_left; (focus (simp only [List.getElem_toArray, List.getElem_cons_succ, List.getElem_cons_zero]; go_simp; first | with_reducible rfl | (simp (disch := omega) only [if_pos, if_neg, Result.andThen_ok]; try with_reducible rfl) | skip)); try simp only [List.getElem_toArray, List.getElem_cons_succ, List.getElem_cons_zero, Act.put, List.setIfInBounds_toArray, List.set_cons_zero, List.set_cons_succ])
  refine planE_cells (v := ?_) [(⟨g2, 1, none⟩, .slice (some ⟨bb, 0, none⟩) R.length cap)] (by simp; and_intros <;> assumption) rfl (by rfl) (fun w' hw' => ?_) ?_; rotate_left; (focus (simp only [List.forall_mem_cons, List.not_mem_nil, false_imp_iff, implies_true, and_true] at hw'; simp only [List.getElem_toArray, List.getElem_cons_succ, List.getElem_cons_zero]; go_simp; first | with_reducible rfl | (simp (disch := omega) only [if_pos, if_neg, Result.andThen_ok]; try with_reducible rfl) | skip)); try simp only [List.getElem_toArray, List.getElem_cons_succ, List.getElem_cons_zero, Act.put, List.setIfInBounds_toArray, List.set_cons_zero, List.set_cons_succ]
  refine planE_cells (v := ?_) [(⟨lb, 0, none⟩, .int .i64 f), (⟨lb, 1, none⟩, .int .i64 t), (⟨lb, 2, none⟩, .slice DA da.length dc)] (by simp; and_intros <;> assumption) rfl (by rfl) (fun w' hw' => ?_) ?_; rotate_left; (focus (simp only [List.forall_mem_cons, List.not_mem_nil, false_imp_iff, implies_true, and_true] at hw'; simp only [List.getElem_toArray, List.getElem_cons_succ, List.getElem_cons_zero]; go_simp; first | with_reducible rfl | (simp (disch := omega) only [if_pos, if_neg, Result.andThen_ok]; try with_reducible rfl) | skip)); try simp only [List.getElem_toArray, List.getElem_cons_succ, List.getElem_cons_zero, Act.put, List.setIfInBounds_toArray, List.set_cons_zero, List.set_cons_succ]
  refine planE_eff rfl (by rfl) (fun K hK => ?_)
  go_simp
  have hb8 : Below wq.heap.size wq (wq.alloc (.cells #[.int .i64 f, .int .i64 t, .slice DA da.length dc] 68)) := (Below.refl _ _).alloc (Nat.le_refl _) _
  have hN8 := Blk.new wq #[.int .i64 f, .int .i64 t, .slice DA da.length dc] 68
  have hL8 := hL7.kept hb8
  have hB8 := hB7.trans (hb8.mono hB7.size)
  have hf8 := Lib.hid hB7.size
  obtain ⟨nb, hnb⟩ : ∃ nb, nb = wq.heap.size := ⟨_, rfl⟩
  rw [← hnb] at hN8 hf8 ⊢
  generalize wq.alloc (.cells #[.int .i64 f, .int .i64 t, .slice DA da.length dc] 68) = w8 at *
  clear c1 l0 l1 l2 hb8 hB7 hL7 hnb
  obtain ⟨_, c1, _, _, _⟩ := HDAT.out _ hB8
  have l0 := hL8.cell 0 rfl
  have l1 := hL8.cell 1 rfl
  have l2 := hL8.cell 2 rfl
  refine hK _ _ (by simp [owed, left] <;> (and_intros <;> first | trivial | assumption)) ?_
  clear hK K
  try simp only [List.getElem_toArray, List.getElem_cons_succ, List.getElem_cons_zero, Act.put, List.setIfInBounds_toArray, List.set_cons_zero, List.set_cons_succ]
  refine planE_eff rfl (by rfl) (fun K hK => ?_)
  obtain ⟨i0, hi0, hz0, hz1, hz2⟩ := info_parts rletter_info
  have h4 := h2.below hB8
  refine op_appendS w8 (.tmp 104) (.tmp 106) 42 68 (by rfl) Try.underlying42 hi0 hz0 hz1 hz2 rfl (by decide) 0 (some ⟨bb, 0, none⟩) (some ⟨nb, 0, none⟩) cap 1 (R.map Ltr.cells) [[.int .i64 f, .int .i64 t, .slice DA da.length dc]] (by simp; rfl) (by rfl) h4.row (RS.lit hN8) (by simp) (by simp [Value.oneCell']) (by simp; omega) (by simp; omega) (Nat.zero_le _) ?_
  intro ys A' cap' w5 hys hy1 hy2 hrow5 hg5 hA5
  have hk5 := h4.blk.grown hg5 h4.ne_row
  obtain ⟨h6, hm6⟩ := h4.addRow ⟨f, t, DA, dc, da⟩ ys hys.out hrow5 hg5 hA5 ⟨hdat.1.below hB8, hdat.2⟩ (by omega)
  have hK6 := h4.keep hfr.1 hfr.2.1 (Nat.le_trans hn2 hB8.size) hm6
  have hs4 := hB8.size
  have hRI : RI n (w5.setCell ⟨g2, 1, none⟩ (.slice A' ys.length cap')) g2 ((R ++ [(⟨f, t, DA, dc, da⟩ : Ltr)]).map Ltr.val) C2 room2 (N + 1) := by
    refine ⟨_, A', cap', Cs, B, capB, h6, ⟨hfr.1, fun b hb => ?_, hfr.2.2.1, fun r hr b hb => ?_⟩, rfl, hCn, hC, Nat.le_succ_of_le hCN⟩
    · rcases hA5 with e | e
      · rw [e] at hb; exact hfr.2.1 b hb
      · rw [e] at hb; injection hb with hb; omega
    · rcases List.mem_append.1 hr with hr | hr
      · exact hfr.2.2.2 r hr b hb
      · rw [List.mem_singleton] at hr
        subst hr
        exact hdf b hb
  have HF := fun r => Lib.hid (AnyE.of (r := r) ((hP2.below hB8).tm hK6.tm) hRI ((hB2.trans (hB8.mono hn2)).trans hK6.below))
  clear c1 l0 l1 l2 hRI h6 hm6 hK6 hs4 h4 hB8 hrow5 hg5 hA5 hys hN8 hL8 HDAT hP2 hB2 hfr hV hCn hC hCN h2 R0 hdat hdf hX2
  have c1 := hk5.cell 1 rfl
  have f1 := hk5.free 1
  skip
  refine hK _ _ (by simp [owed, left] <;> (and_intros <;> first | trivial | assumption)) ?_
  clear hK K
  try simp only [List.getElem_toArray, List.getElem_cons_succ, List.getElem_cons_zero, Act.put, List.setIfInBounds_toArray, List.set_cons_zero, List.set_cons_succ]
  iterate 2 (refine planE_pure (v := ?_) rfl (by rfl) (fun w' => ?_) ?_; rotate_left; (focus (simp only [List.getElem_toArray, List.getElem_cons_succ, List.getElem_cons_zero]; go_simp; first | with_reducible rfl | (simp (disch := omega) only [if_pos, if_neg, Result.andThen_ok]; try with_reducible rfl) | skip)); try simp only [List.getElem_toArray, List.getElem_cons_succ, List.getElem_cons_zero, Act.put, List.setIfInBounds_toArray, List.set_cons_zero, List.set_cons_succ])
  refine planE_eff rfl (by rfl) (fun K hK => ?_)
  go_simp
  skip
  refine hK _ _ (by simp [owed, left] <;> (and_intros <;> first | trivial | assumption)) ?_
  clear hK K
  try simp only [List.getElem_toArray, List.getElem_cons_succ, List.getElem_cons_zero, Act.put, List.setIfInBounds_toArray, List.set_cons_zero, List.set_cons_succ]
  refine planE_end ?_
  go_wp2_with fail
  go_ret
  exact (HF _).out

set_option maxRecDepth 20000 in
set_option maxHeartbeats 8000000 in
theorem actG_cut (k a b : Int) (D : Option Addr) (c : Nat) (d : List UInt8) (h : PI n w g V C room) (r : RI n w g2 V2 C2 room2 N) (hn : n ≤ w.heap.size) (hN : N < 4096) (hr0 : room2 ≤ 4096) (ha : I64 a) (hb : I64 b) (hD : ∀ w', Below n w w' → RB w' D d) (hd : d.length ≤ 140737488351232) (hk : k = 4) :
    Calls Try.prog 19 #[.pointer (some ⟨g, 0, none⟩), .pointer (some ⟨g2, 0, none⟩), .agg #[.int .i64 k, .int .i64 a, .int .i64 b, .slice D d.length c]] w (AnyE n g g2 room room2 (N + 1) w) := by
  subst hk
  have hbw := (Below.refl w.heap.size w).alloc (Nat.le_refl _) (.cells #[.int .i64 4, .int .i64 a, .int .i64 b, .slice D d.length c] 35)
  have hX := Blk.new w #[.int .i64 4, .int .i64 a, .int .i64 b, .slice D d.length c] 35
  obtain ⟨xb, hxb⟩ : ∃ xb, xb = w.heap.size := ⟨_, rfl⟩
  rw [← hxb] at hX
  have HXB := Lib.hid hxb
  have hn1 := Nat.le_trans hn hbw.size
  have h1 := h.below hbw
  have r1 := r.below hbw
  have hB1 := hbw.mono hn
  have HD := Lib.hid hD
  have x0 := hX.cell 0 rfl
  have x1 := hX.cell 1 rfl
  have x2 := hX.cell 2 rfl
  have x3 := hX.cell 3 rfl
  clear h r hn hxb hD hbw
  go_enter Try.func19, Try.ntmps19
  go_upto_region 1 with fail
  rw [← HXB.out]
  generalize w.alloc (.cells #[.int .i64 4, .int .i64 a, .int .i64 b, .slice D d.length c] 35) = w1 at *
  go_cut [7] (fun s7 wx => s7 = .bool (okB a b) ∧ w1 = wx)
  case first =>
    cases e1 : endB a
    · have he : okB a b = false := by simp [okB, e1]
      go_wp2_with fail
      refine (refEnd a _).mono ?_
      rintro e w' ⟨rfl, rfl⟩
      rw [e1]
      go_wp2_with fail
      go_meet
      exact ⟨by rw [he], rfl⟩
    · cases e2 : endB b
      · have he : okB a b = false := by simp [okB, e2]
        go_wp2_with fail
        refine (refEnd a _).mono ?_
        rintro e w' ⟨rfl, rfl⟩
        rw [e1]
        go_wp2_with fail
        refine (refEnd b _).mono ?_
        rintro e w' ⟨rfl, rfl⟩
        rw [e2]
        go_wp2_with fail
        go_meet
        exact ⟨by rw [he], rfl⟩
      · have he : okB a b = (a != b) := by simp [okB, e1, e2, bne]; by_cases hab : a = b <;> simp [hab]
        go_wp2_with fail
        refine (refEnd a _).mono ?_
        rintro e w' ⟨rfl, rfl⟩
        rw [e1]
        go_wp2_with fail
        refine (refEnd b _).mono ?_
        rintro e w' ⟨rfl, rfl⟩
        rw [e2]
        go_wp2_with fail
        go_meet
        exact ⟨by rw [he], rfl⟩
  case rest =>
  obtain ⟨rfl, rfl⟩ := hcut
  go_wp2_with fail
  refine (postCutI a b h1 hn1).mono ?_
  rintro e w2 ⟨rfl, hP2, hK2⟩
  have hR2 := r1.tm hK2.tm
  have hX2 := hX.tm hK2.tm (by simp [badP])
  have hB2 := hB1.trans hK2.below
  have hn2 := Nat.le_trans hn1 hK2.tm.size
  clear x0 x1 x2 x3 h1 r1 hX hB1 hK2 hn1
  have x1 := hX2.cell 1 rfl
  have x2 := hX2.cell 2 rfl
  have R0 := Lib.hid hR2
  obtain ⟨R, A, cap, Cs, B, capB, h2, hfr, hV, hCn, hC, hCN⟩ := hR2
  have hcl := h2.fits.2
  cases hok : okB a b
  · have HF := fun r => Lib.hid (AnyE.of (r := r) hP2 (R0.out.more (Nat.le_succ _)) hB2)
    rw [if_neg (by decide)]
    clear hP2 hB2 h2 hfr hV hCn hC hCN R0 hok
    go_wp2_with fail
    go_ret
    exact (HF _).out
  rw [if_pos rfl]
  rw [hok, if_pos rfl] at hP2
  have HK : Hid (∀ (w' : World), PI n w' g V (setC C (a, b) true) room → RI n w' g2 V2 (setC C2 (a, b) true) room2 (N + 1) → Below n w w' → ∀ r, AnyE n g g2 room room2 (N + 1) w (.returned (.bool r)) w') := Lib.hid (fun w' p q b r => AnyE.of p q b)
  have HC := Lib.hid (refCut a b w2 h2)
  clear hok
  go_wp2_with fail
  refine HC.out.mono ?_
  rintro e w' ⟨rfl, ⟨hn, rfl⟩ | ⟨k, hk, rfl⟩⟩
  case inr =>
    have hkl : ¬ (k : Int) < 0 := by omega
    have HF := Lib.hid (HK.out _ hP2 ⟨R, A, cap, Cs, B, capB, h2, hfr, hV, hCn, fun x => (by
      unfold setC
      by_cases hx : x = (a, b)
      · subst hx
        simp [List.mem_of_getElem? hk]
      · rw [if_neg hx]
        exact hC x), Nat.le_succ_of_le hCN⟩ hB2)
    clear hP2 hB2 h2 hfr hV hCn hC hCN R0 HK HC hk
    go_wp2_with fail
    go_ret
    exact HF.out _
  case inl =>
  have HN := Lib.hid hn
  have H2 := Lib.hid h2
  clear HC R0 hn
  go_wp2_with fail
  clear x1 x2
  refine wp_region_planE_gen (by kernel_rfl) [(0, none), (1, none), (2, none), (3, none), (4, none), (5, none), (6, none), (7, none), (8, none), (9, none), (10, some [9]), (11, some [4]), (12, none), (13, none), (14, some [0, 1, 2, 3, 4, 5, 6, 7, 8, 9, 13])] (by kernel_rfl) (by kernel_rfl) (by decide) ?_
  intro wq hwq
  have hbq : Below w2.heap.size w2 wq := by rw [hwq]; exact (Below.refl _ _).drew
  have x1 := (hX2.kept hbq).cell 1 rfl
  have x2 := (hX2.kept hbq).cell 2 rfl
  have c2 := (h2.below hbq).blk.cell 2 rfl
  clear hwq
  iterate 4 (refine planE_pure (v := ?_) rfl (by rfl) (fun w' => ?_) ?_; rotate_left; (focus (simp only [List.getElem_toArray, List.getElem_cons_succ, List.getElem_cons_zero]; go_simp; first | with_reducible rfl | (simp (disch := omega) only [if_pos, if_neg, Result.andThen_ok]; try with_reducible rfl) | skip)); try simp only [List.getElem_toArray, List.getElem_cons_succ, List.getElem_cons_zero, Act.put, List.setIfInBounds_toArray, List.set_cons_zero, List.set_cons_succ])
  refine planE_cells (v := ?_) [(⟨g2, 2, none⟩, .slice B Cs.length capB)] (by simp; and_intros <;> assumption) rfl (by rfl) (fun w' hw' => ?_) ?_; rotate_left; (focus (simp only [List.forall_mem_cons, List.not_mem_nil, false_imp_iff, implies_true, and_true] at hw'; simp only [List.getElem_toArray, List.getElem_cons_succ, List.getElem_cons_zero]; go_simp; first | with_reducible rfl | (simp (disch := omega) only [if_pos, if_neg, Result.andThen_ok]; try with_reducible rfl) | skip)); try simp only [List.getElem_toArray, List.getElem_cons_succ, List.getElem_cons_zero, Act.put, List.setIfInBounds_toArray, List.set_cons_zero, List.set_cons_succ]
  iterate 1 (refine planE_pure (v := ?_) rfl (by rfl) (fun w' => ?_) ?_; rotate_left; (focus (simp only [List.getElem_toArray, List.getElem_cons_succ, List.getElem_cons_zero]; go_simp; first | with_reducible rfl | (simp (disch := omega) only [if_pos, if_neg, Result.andThen_ok]; try with_reducible rfl) | skip)); try simp only [List.getElem_toArray, List.getElem_cons_succ, List.getElem_cons_zero, Act.put, List.setIfInBounds_toArray, List.set_cons_zero, List.set_cons_succ])
  refine planE_cells (v := ?_) [(⟨xb, 1, none⟩, .int .i64 a)] (by simp; and_intros <;> assumption) rfl (by rfl) (fun w' hw' => ?_) ?_; rotate_left; (focus (simp only [List.forall_mem_cons, List.not_mem_nil, false_imp_iff, implies_true, and_true] at hw'; simp only [List.getElem_toArray, List.getElem_cons_succ, List.getElem_cons_zero]; go_simp; first | with_reducible rfl | (simp (disch := omega) only [if_pos, if_neg, Result.andThen_ok]; try with_reducible rfl) | skip)); try simp only [List.getElem_toArray, List.getElem_cons_succ, List.getElem_cons_zero, Act.put, List.setIfInBounds_toArray, List.set_cons_zero, List.set_cons_succ]
  iterate 1 (refine planE_pure (v := ?_) rfl (by rfl) (fun w' => ?_) ?_; rotate_left; (focus (simp only [List.getElem_toArray, List.getElem_cons_succ, List.getElem_cons_zero]; go_simp; first | with_reducible rfl | (simp (disch := omega) only [if_pos, if_neg, Result.andThen_ok]; try with_reducible rfl) | skip)); try simp only [List.getElem_toArray, List.getElem_cons_succ, List.getElem_cons_zero, Act.put, List.setIfInBounds_toArray, List.set_cons_zero, List.set_cons_succ])
  refine planE_cells (v := ?_) [(⟨xb, 2, none⟩, .int .i64 b)] (by simp; and_intros <;> assumption) rfl (by rfl) (fun w' hw' => ?_) ?_; rotate_left; (focus (simp only [List.forall_mem_cons, List.not_mem_nil, false_imp_iff, implies_true, and_true] at hw'; simp only [List.getElem_toArray, List.getElem_cons_succ, List.getElem_cons_zero]; go_simp; first | with_reducible rfl | (simp (disch := omega) only [if_pos, if_neg, Result.andThen_ok]; try with_reducible rfl) | skip)); try simp only [List.getElem_toArray, List.getElem_cons_succ, List.getElem_cons_zero, Act.put, List.setIfInBounds_toArray, List.set_cons_zero, List.set_cons_succ]
  iterate 1 (refine planE_pure (v := ?_) rfl (by rfl) (fun w' => ?_) ?_; rotate_left; (focus (simp only [List.getElem_toArray, List.getElem_cons_succ, List.getElem_cons_zero]; go_simp; first | with_reducible rfl | (simp (disch := omega) only [if_pos, if_neg, Result.andThen_ok]; try with_reducible rfl) | skip)); try simp only [List.getElem_toArray, List.getElem_cons_succ, List.getElem_cons_zero, Act.put, List.setIfInBounds_toArray, List.set_cons_zero, List.set_cons_succ])
  refine planE_eff rfl (by rfl) (fun K hK => ?_)
  go_simp
  have hb4 : Below wq.heap.size wq (wq.alloc (.cells #[.int .i64 a, .int .i64 b] 70)) := (Below.refl _ _).alloc (Nat.le_refl _) _
  have hL4 := Blk.new wq #[.int .i64 a, .int .i64 b] 70
  have hB4 := hbq.trans (hb4.mono hbq.size)
  obtain ⟨lb, hlb⟩ : ∃ lb, lb = wq.heap.size := ⟨_, rfl⟩
  rw [← hlb] at hL4 ⊢
  generalize wq.alloc (.cells #[.int .i64 a, .int .i64 b] 70) = w4 at *
  clear c2 x1 x2 hbq hb4 hlb
  have hX4 := hX2.kept hB4
  have x1 := hX4.cell 1 rfl
  have x2 := hX4.cell 2 rfl
  have c2 := (h2.below hB4).blk.cell 2 rfl
  refine hK _ _ (by simp [owed, left] <;> (and_intros <;> first | trivial | assumption)) ?_
  clear hK K
  try simp only [List.getElem_toArray, List.getElem_cons_succ, List.getElem_cons_zero, Act.put, List.setIfInBounds_toArray, List.set_cons_zero, List.set_cons_succ]
  refine planE_eff rfl (by rfl) (fun K hK => ?_)
  obtain ⟨i0, hi0, hz0, hz1, hz2⟩ := info_parts pair_info
  have h4 := h2.below hB4
  refine op_appendS w4 (.tmp 135) (.tmp 141) 43 70 (by rfl) Try.underlying43 hi0 hz0 hz1 hz2 rfl (by decide) 0 B (some ⟨lb, 0, none⟩) capB 1 (Cs.map pairCells) [[.int .i64 a, .int .i64 b]] (by simp; rfl) (by rfl) h4.cuts (RS.lit hL4) (by simp) (by simp [Value.oneCell']) (by simp; omega) (by simp; omega) (Nat.zero_le _) ?_
  intro ys B' capB' w5 hys hy1 hy2 hrow5 hg5 hB5
  have hk5 := h4.blk.grown hg5 h4.cuts_ne_var
  have hX5 := hX4.grown hg5 (h4.cuts.ne_var hX4 (by decide))
  clear x1 x2 c2
  have x1 := hX5.cell 1 rfl
  have x2 := hX5.cell 2 rfl
  obtain ⟨h6, hm6⟩ := h4.addCut (a, b) ys hys.out hrow5 hg5 hB5 (by omega)
  have hK6 := h4.keepC hfr.1 hfr.2.2.1 (Nat.le_trans hn2 hB4.size) hm6
  have hP4 := hP2.below hB4
  have hs4 := hB4.size
  have HF := Lib.hid (HK.out _ (hP4.tm hK6.tm) ⟨R, A, cap, _, B', capB', h6, ⟨hfr.1, hfr.2.1, fun b hb => (by
      rcases hB5 with e | e
      · rw [e] at hb; exact hfr.2.2.1 b hb
      · rw [e] at hb; injection hb with hb; omega), hfr.2.2.2⟩, hV, (by
      rw [List.nodup_append]
      exact ⟨hCn, by simp, fun p hp q hq e => HN.out (by rw [List.mem_singleton] at hq; rw [← hq, ← e]; exact hp)⟩), fun x => (by
      unfold setC
      by_cases hx : x = (a, b)
      · subst hx
        simp
      · rw [if_neg hx, hC x]
        simp [hx]), (by simp; omega)⟩ ((hB2.trans (hB4.mono hn2)).trans hK6.below))
  clear HK h6 hm6 hK6 hP4 hs4 h4 hB4 hL4 hrow5 hg5 hB5 hys H2 hP2 hB2 hfr hV hCn hC hCN h2 HN hX2
  have c2 := hk5.cell 2 rfl
  have f2 := hk5.free 2
  refine hK _ _ (by simp [owed, left] <;> (and_intros <;> first | trivial | assumption)) ?_
  clear hK K
  try simp only [List.getElem_toArray, List.getElem_cons_succ, List.getElem_cons_zero, Act.put, List.setIfInBounds_toArray, List.set_cons_zero, List.set_cons_succ]
  iterate 2 (refine planE_pure (v := ?_) rfl (by rfl) (fun w' => ?_) ?_; rotate_left; (focus (simp only [List.getElem_toArray, List.getElem_cons_succ, List.getElem_cons_zero]; go_simp; first | with_reducible rfl | (simp (disch := omega) only [if_pos, if_neg, Result.andThen_ok]; try with_reducible rfl) | skip)); try simp only [List.getElem_toArray, List.getElem_cons_succ, List.getElem_cons_zero, Act.put, List.setIfInBounds_toArray, List.set_cons_zero, List.set_cons_succ])
  refine planE_eff rfl (by rfl) (fun K hK => ?_)
  go_simp
  skip
  refine hK _ _ (by simp [owed, left] <;> (and_intros <;> first | trivial | assumption)) ?_
  clear hK K
  try simp only [List.getElem_toArray, List.getElem_cons_succ, List.getElem_cons_zero, Act.put, List.setIfInBounds_toArray, List.set_cons_zero, List.set_cons_succ]
  refine planE_end ?_
  go_wp2_with fail
  go_ret
  exact HF.out _

set_option maxRecDepth 20000 in
set_option maxHeartbeats 8000000 in
theorem actG_heal (k a b : Int) (D : Option Addr) (c : Nat) (d : List UInt8) (h : PI n w g V C room) (r : RI n w g2 V2 C2 room2 N) (hn : n ≤ w.heap.size) (hN : N < 4096) (hr0 : room2 ≤ 4096) (ha : I64 a) (hb : I64 b) (hD : ∀ w', Below n w w' → RB w' D d) (hd : d.length ≤ 140737488351232) (hk : k = 5) :
    Calls Try.prog 19 #[.pointer (some ⟨g, 0, none⟩), .pointer (some ⟨g2, 0, none⟩), .agg #[.int .i64 k, .int .i64 a, .int .i64 b, .slice D d.length c]] w (AnyE n g g2 room room2 (N + 1) w) := by
  subst hk
  have hbw := (Below.refl w.heap.size w).alloc (Nat.le_refl _) (.cells #[.int .i64 5, .int .i64 a, .int .i64 b, .slice D d.length c] 35)
  have hX := Blk.new w #[.int .i64 5, .int .i64 a, .int .i64 b, .slice D d.length c] 35
  obtain ⟨xb, hxb⟩ : ∃ xb, xb = w.heap.size := ⟨_, rfl⟩
  rw [← hxb] at hX
  have HXB := Lib.hid hxb
  have hn1 := Nat.le_trans hn hbw.size
  have h1 := h.below hbw
  have r1 := r.below hbw
  have hB1 := hbw.mono hn
  have HD := Lib.hid hD
  have x0 := hX.cell 0 rfl
  have x1 := hX.cell 1 rfl
  have x2 := hX.cell 2 rfl
  have x3 := hX.cell 3 rfl
  clear h r hn hxb hD hbw
  go_enter Try.func19, Try.ntmps19
  go_upto_region 1 with fail
  rw [← HXB.out]
  generalize w.alloc (.cells #[.int .i64 5, .int .i64 a, .int .i64 b, .slice D d.length c] 35) = w1 at *
  go_cut [7] (fun s7 wx => s7 = .bool (okB a b) ∧ w1 = wx)
  case first =>
    cases e1 : endB a
    · have he : okB a b = false := by simp [okB, e1]
      go_wp2_with fail
      refine (refEnd a _).mono ?_
      rintro e w' ⟨rfl, rfl⟩
      rw [e1]
      go_wp2_with fail
      go_meet
      exact ⟨by rw [he], rfl⟩
    · cases e2 : endB b
      · have he : okB a b = false := by simp [okB, e2]
        go_wp2_with fail
        refine (refEnd a _).mono ?_
        rintro e w' ⟨rfl, rfl⟩
        rw [e1]
        go_wp2_with fail
        refine (refEnd b _).mono ?_
        rintro e w' ⟨rfl, rfl⟩
        rw [e2]
        go_wp2_with fail
        go_meet
        exact ⟨by rw [he], rfl⟩
      · have he : okB a b = (a != b) := by simp [okB, e1, e2, bne]; by_cases hab : a = b <;> simp [hab]
        go_wp2_with fail
        refine (refEnd a _).mono ?_
        rintro e w' ⟨rfl, rfl⟩
        rw [e1]
        go_wp2_with fail
        refine (refEnd b _).mono ?_
        rintro e w' ⟨rfl, rfl⟩
        rw [e2]
        go_wp2_with fail
        go_meet
        exact ⟨by rw [he], rfl⟩
  case rest =>
  obtain ⟨rfl, rfl⟩ := hcut
  go_wp2_with fail
  refine (postHealI a b h1 hn1).mono ?_
  rintro e w2 ⟨rfl, hP2, hK2⟩
  have hR2 := r1.tm hK2.tm
  have hX2 := hX.tm hK2.tm (by simp [badP])
  have hB2 := hB1.trans hK2.below
  have hn2 := Nat.le_trans hn1 hK2.tm.size
  clear x0 x1 x2 x3 h1 r1 hX hB1 hK2 hn1
  have x1 := hX2.cell 1 rfl
  have x2 := hX2.cell 2 rfl
  have R0 := Lib.hid hR2
  obtain ⟨R, A, cap, Cs, B, capB, h2, hfr, hV, hCn, hC, hCN⟩ := hR2
  have hcl := h2.fits.2
  cases hok : okB a b
  · have HF := fun r => Lib.hid (AnyE.of (r := r) hP2 (R0.out.more (Nat.le_succ _)) hB2)
    rw [if_neg (by decide)]
    clear hP2 hB2 h2 hfr hV hCn hC hCN R0 hok
    go_wp2_with fail
    go_ret
    exact (HF _).out
  rw [if_pos rfl]
  rw [hok, if_pos rfl] at hP2
  have HK : Hid (∀ (w' : World), PI n w' g V (setC C (a, b) false) room → RI n w' g2 V2 (setC C2 (a, b) false) room2 (N + 1) → Below n w w' → ∀ r, AnyE n g g2 room room2 (N + 1) w (.returned (.bool r)) w') := Lib.hid (fun w' p q b r => AnyE.of p q b)
  have HC := Lib.hid (refCut a b w2 h2)
  clear hok
  go_wp2_with fail
  refine HC.out.mono ?_
  rintro e w' ⟨rfl, ⟨hn, rfl⟩ | ⟨k, hk, rfl⟩⟩
  case inl =>
    have HF := Lib.hid (HK.out _ hP2 ⟨R, A, cap, Cs, B, capB, h2, hfr, hV, hCn, fun x => (by
      unfold setC
      by_cases hx : x = (a, b)
      · subst hx
        simp [hn]
      · rw [if_neg hx]
        exact hC x), Nat.le_succ_of_le hCN⟩ hB2)
    clear hP2 hB2 h2 hfr hV hCn hC hCN R0 HK HC hn
    go_wp2_with fail
    go_ret
    exact HF.out _
  case inr =>
  have HKK := Lib.hid hk
  have hkl : k < Cs.length := (List.getElem?_eq_some_iff.1 hk).1
  obtain ⟨bb, rfl⟩ := h2.cuts.head (by simpa using (show 0 < Cs.length by omega))
  have c2 := h2.blk.cell 2 rfl
  have hccap := h2.cuts.cap
  rw [List.length_map] at hccap
  have hb4 : Below w2.heap.size w2 (w2.alloc (.cells #[] 70)) := (Below.refl _ _).alloc (Nat.le_refl _) _
  have h4 := h2.below hb4
  obtain ⟨hb, hhb⟩ : ∃ hb, hb = w2.heap.size := ⟨_, rfl⟩
  have hO4 : OR (w2.alloc (.cells #[] 70)) hb 70 2 (some ⟨w2.heap.size, 0, none⟩) 0 [] := OR.made0 (base := hb) w2 70 2 (by omega)
  have hs4 : hb ≤ (w2.alloc (.cells #[] 70)).heap.size := by simp; omega
  have c2' := h4.blk.cell 2 rfl
  obtain ⟨i0, hi0, hz0, hz1, hz2⟩ := info_parts pair_info
  have hk0 : ¬ (k : Int) < 0 := by omega
  have hk1 : (0 : Int) ≤ (k : Int) := by omega
  have hi1 : k + 1 ≤ Cs.length := hkl
  have hi2 : k + 1 ≤ capB := by omega
  have hic : k ≤ capB := by omega
  clear hk HC R0 x1 x2 hX2
  by_cases hj : k + 1 < capB
  · skip
    go_wp2_with (first
      | (at_builtin; refine wp_appendS _ rfl (.tmp 167) (.tmp 173) 43 70 rfl Try.underlying43 hi0 hz0 hz1 hz2 rfl (by decide) hb _ (some ⟨bb, 0, none⟩) 0 capB [] ((Cs.map pairCells).take k) rfl (by rw [List.length_take, List.length_map, Nat.min_eq_left (by omega)]; rfl) hO4 (h4.cuts.rs.take k) (fun r hr => pair_len r (List.mem_of_mem_take hr)) (fun r hr => pair_one r (List.mem_of_mem_take hr)) (by simp; omega) (by simp; omega) hs4 ?_
         intro ys5 A5 c5 w5 hy5 hy51 hy52 hrow5 hg5 _
         have hb5 : Below w2.heap.size w2 w5 := hb4.grown hg5 hb4.size (fun b hb => by simp at hb; omega)
         have h5 := h2.below hb5
         clear c2 c2'
         have c2 := h5.blk.cell 2 rfl
         simp only [List.length_nil, Nat.zero_add, List.length_take, List.length_map] at hy51 hy52)
      | (at_builtin; refine wp_appendS w5 rfl (.tmp 176) (.tmp 183) 43 70 rfl Try.underlying43 hi0 hz0 hz1 hz2 rfl (by decide) hb A5 (some ⟨bb, (k + 1) * 2, none⟩) c5 (capB - (k + 1)) ys5 ((Cs.map pairCells).drop (k + 1)) rfl (by rw [List.length_drop, List.length_map]; rfl) hrow5 (by have := h5.cuts.rs.drop (k + 1); rwa [Nat.zero_add] at this) (fun r hr => pair_len r (List.mem_of_mem_drop hr)) (fun r hr => pair_one r (List.mem_of_mem_drop hr)) (by simp; omega) (by simp; omega) (Nat.le_trans hs4 hg5.size) ?_
         intro ys6 A6 c6 w6 hy6 hy61 hy62 hrow6 hg6 _
         have hb6 : Below w2.heap.size w2 w6 := hb5.grown hg6 hb5.size (fun b hb => by have := (hrow5.blk_lt b hb).1; omega)
         clear c2
         have h6 := h2.below hb6
         have c2 := h6.blk.cell 2 rfl
         have f2 := h6.blk.free 2
         have hd6 : ys6 = (Cs.eraseIdx k).map pairCells := by
           have e5 := hy5.out
           rw [List.nil_append] at e5
           rw [hy6.out, e5, map_eraseIdx]
         have hrow6' := hrow6.mono (Nat.zero_le _)
         have hyl : ys6.length = (Cs.eraseIdx k).length := by rw [hd6, List.length_map]
         have hel : (Cs.eraseIdx k).length = Cs.length - 1 := by rw [List.length_eraseIdx, if_pos hkl]
         rw [hd6] at hrow6'
         have h7 := h6.setCuts hrow6' (by omega) ys6.length hyl
         have hA6 : ∀ b, A6.map (·.block) = some b → n ≤ b := fun b hb => by have := (hrow6.blk_lt b hb).1; omega
         have htm7 : TM badR w2 (w6.setCell ⟨g2, 2, none⟩ (.slice A6 ys6.length c6)) := (TM.below hb6).setCell (p := ⟨g2, 2, none⟩) (fun o ho => by rw [show w6.heap[g2]? = _ from h6.blk] at ho; injection ho with ho; subst ho; exact .inl rfl) _
         have hB7 := (hB2.trans (hb6.mono hn2)).setCell (p := ⟨g2, 2, none⟩) (by simpa using hfr.1) (.slice A6 ys6.length c6)
         have HF := Lib.hid (HK.out _ (hP2.tm htm7) ⟨R, A, cap, _, A6, c6, h7, ⟨hfr.1, hfr.2.1, hA6, hfr.2.2.2⟩, hV, hCn.sublist (List.eraseIdx_sublist _ _), fun x => (by
           unfold setC
           by_cases hx : x = (a, b)
           · subst hx
             simp [nodup_erase hCn HKK.out]
           · rw [if_neg hx, hC x]
             simp [nodup_erase hCn HKK.out, hx]), (by omega)⟩ hB7)
         clear hy6 hy61 hy62 hrow6 hg6 hb6 h6 hrow6' h7 hA6 htm7 hB7 hd6 hy5 hyl h5 hb5 hrow5 hg5 hel))
    go_ret
    exact HF.out _
  · obtain rfl : capB = k + 1 := by omega
    go_wp2_with (first
      | (at_builtin; refine wp_appendS _ rfl (.tmp 167) (.tmp 173) 43 70 rfl Try.underlying43 hi0 hz0 hz1 hz2 rfl (by decide) hb _ (some ⟨bb, 0, none⟩) 0 (k + 1) [] ((Cs.map pairCells).take k) rfl (by rw [List.length_take, List.length_map, Nat.min_eq_left (by omega)]; rfl) hO4 (h4.cuts.rs.take k) (fun r hr => pair_len r (List.mem_of_mem_take hr)) (fun r hr => pair_one r (List.mem_of_mem_take hr)) (by simp; omega) (by simp; omega) hs4 ?_
         intro ys5 A5 c5 w5 hy5 hy51 hy52 hrow5 hg5 _
         have hb5 : Below w2.heap.size w2 w5 := hb4.grown hg5 hb4.size (fun b hb => by simp at hb; omega)
         have h5 := h2.below hb5
         clear c2 c2'
         have c2 := h5.blk.cell 2 rfl
         simp only [List.length_nil, Nat.zero_add, List.length_take, List.length_map] at hy51 hy52)
      | (at_builtin; refine wp_appendS w5 rfl (.tmp 176) (.tmp 183) 43 70 rfl Try.underlying43 hi0 hz0 hz1 hz2 rfl (by decide) hb A5 (some ⟨bb, 0, none⟩) c5 0 ys5 ((Cs.map pairCells).drop (k + 1)) rfl (by rw [List.drop_of_length_le (by rw [List.length_map]; omega)]; rfl) hrow5 (by rw [List.drop_of_length_le (by rw [List.length_map]; omega)]; exact RS.nil) (fun r hr => pair_len r (List.mem_of_mem_drop hr)) (fun r hr => pair_one r (List.mem_of_mem_drop hr)) (by simp; omega) (by simp; omega) (Nat.le_trans hs4 hg5.size) ?_
         intro ys6 A6 c6 w6 hy6 hy61 hy62 hrow6 hg6 _
         have hb6 : Below w2.heap.size w2 w6 := hb5.grown hg6 hb5.size (fun b hb => by have := (hrow5.blk_lt b hb).1; omega)
         clear c2
         have h6 := h2.below hb6
         have c2 := h6.blk.cell 2 rfl
         have f2 := h6.blk.free 2
         have hd6 : ys6 = (Cs.eraseIdx k).map pairCells := by
           have e5 := hy5.out
           rw [List.nil_append] at e5
           rw [hy6.out, e5, map_eraseIdx]
         have hrow6' := hrow6.mono (Nat.zero_le _)
         have hyl : ys6.length = (Cs.eraseIdx k).length := by rw [hd6, List.length_map]
         have hel : (Cs.eraseIdx k).length = Cs.length - 1 := by rw [List.length_eraseIdx, if_pos hkl]
         rw [hd6] at hrow6'
         have h7 := h6.setCuts hrow6' (by omega) ys6.length hyl
         have hA6 : ∀ b, A6.map (·.block) = some b → n ≤ b := fun b hb => by have := (hrow6.blk_lt b hb).1; omega
         have htm7 : TM badR w2 (w6.setCell ⟨g2, 2, none⟩ (.slice A6 ys6.length c6)) := (TM.below hb6).setCell (p := ⟨g2, 2, none⟩) (fun o ho => by rw [show w6.heap[g2]? = _ from h6.blk] at ho; injection ho with ho; subst ho; exact .inl rfl) _
         have hB7 := (hB2.trans (hb6.mono hn2)).setCell (p := ⟨g2, 2, none⟩) (by simpa using hfr.1) (.slice A6 ys6.length c6)
         have HF := Lib.hid (HK.out _ (hP2.tm htm7) ⟨R, A, cap, _, A6, c6, h7, ⟨hfr.1, hfr.2.1, hA6, hfr.2.2.2⟩, hV, hCn.sublist (List.eraseIdx_sublist _ _), fun x => (by
           unfold setC
           by_cases hx : x = (a, b)
           · subst hx
             simp [nodup_erase hCn HKK.out]
           · rw [if_neg hx, hC x]
             simp [nodup_erase hCn HKK.out, hx]), (by omega)⟩ hB7)
         clear hy6 hy61 hy62 hrow6 hg6 hb6 h6 hrow6' h7 hA6 htm7 hB7 hd6 hy5 hyl h5 hb5 hrow5 hg5 hel))
    go_ret
    exact HF.out _

theorem lawActG (k a b : Int) (D : Option Addr) (c : Nat) (d : List UInt8) (h : PI n w g V C room) (r : RI n w g2 V2 C2 room2 N) (hn : n ≤ w.heap.size) (hN : N < 4096) (hr0 : room2 ≤ 4096) (ha : I64 a) (hb : I64 b) (hD : ∀ w', Below n w w' → RB w' D d) (hd : d.length ≤ 140737488351232) :
    Calls Try.prog 19 #[.pointer (some ⟨g, 0, none⟩), .pointer (some ⟨g2, 0, none⟩), .agg #[.int .i64 k, .int .i64 a, .int .i64 b, .slice D d.length c]] w (AnyE n g g2 room room2 (N + 1) w) := by
  by_cases h1 : k = 1
  · exact actG_send k a b D c d h r hn hN hr0 ha hb hD hd h1
  by_cases h2 : k = 2
  · exact actG_take k a b D c d h r hn hN hr0 ha hb hD hd h2
  by_cases h3 : k = 3
  · exact actG_twin k a b D c d h r hn hN hr0 ha hb hD hd h3
  by_cases h4 : k = 4
  · exact actG_cut k a b D c d h r hn hN hr0 ha hb hD hd h4
  by_cases h5 : k = 5
  · exact actG_heal k a b D c d h r hn hN hr0 ha hb hD hd h5
  by_cases h6 : k = 6
  · exact actG_copy k a b D c d h r hn hN hr0 ha hb hD hd h6
  exact actG_look k a b D c d h r hn hN hr0 ha hb hD hd h1 h2 h3 h4 h5 h6
end
end Go.Proofs.Ytihmnkkhccihpaa
