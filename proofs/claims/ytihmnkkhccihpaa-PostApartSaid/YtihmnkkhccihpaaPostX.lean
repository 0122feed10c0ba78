/- The law's act: each call on both posts answers alike, and they stay alike. -/
import Derived.Test.YtihmnkkhccihpaaPostL
import Derived.Test.YtihmnkkhccihpaaI64
import Derived.Deep.DeepCutAuto
namespace Go.Proofs.Ytihmnkkhccihpaa
open Go.RowKit

section
variable {n N : Nat} {w w' : World} {g g2 : Nat} {V : List Val} {C : Int × Int → Bool} {room : Int}

theorem RefR.keep {R : List Ltr} {A : Option Addr} {cap : Nat} {Cs : List (Int × Int)} {B : Option Addr} {capB : Nat} (h : RefR w g R A cap Cs B capB room) (hg : n ≤ g) (hA : ∀ b, A.map (·.block) = some b → n ≤ b) (hn : n ≤ w.heap.size) (hm : Mods (PF g A) w w') : Keep badR n w w' :=
  ⟨hm.old (Below.refl _ _) hn (fun i _ hi => by
    rcases hi with rfl | hi
    · exact hg
    · exact hA i hi), TM.mods hm fun b o hb hS => by
    rcases hS with rfl | hS
    · rw [show w.heap[b]? = _ from h.blk] at hb
      injection hb with hb
      subst hb
      exact .inl rfl
    · obtain ⟨cs, hc⟩ := h.row.blk b hS
      rw [hc] at hb
      injection hb with hb
      subst hb
      exact .inr (.inl rfl)⟩

theorem refSendI (f t : Int) (D : Option Addr) (c : Nat) (d : List UInt8) (h : RI n w g V C room N) (hr0 : room ≤ 4096) (hn : n ≤ w.heap.size) (hD : RB w D d) :
    Calls Try.prog 28 #[.pointer (some ⟨g, 0, none⟩), .int .i64 f, .int .i64 t, .slice D d.length c] w fun e w' => e = .returned (.int .i64 (sendErr V C room f t d)) ∧ RI n w' g (sendV V C room f t d) C room N ∧ Keep badR n w w' := by
  have h0 := h
  obtain ⟨R, A, cap, Cs, B, capB, h1, hf, rfl, hCn, hC, hCN⟩ := h
  have same : ∀ er : Int, er ≠ 0 → sendErr (R.map Ltr.val) C room f t d = er → ∀ (e : Ending) (w' : World), (e = .returned (.int .i64 er) ∧ Below w.heap.size w w') → e = .returned (.int .i64 (sendErr (R.map Ltr.val) C room f t d)) ∧ RI n w' g (sendV (R.map Ltr.val) C room f t d) C room N ∧ Keep badR n w w' := by
    rintro er hne he e w' ⟨rfl, hb⟩
    refine ⟨by rw [he], ?_, .of_below hb hn⟩
    rw [sendV, he, if_neg hne]
    exact h0.below hb
  have same' : ∀ er : Int, er ≠ 0 → sendErr (R.map Ltr.val) C room f t d = er → ∀ (e : Ending) (w' : World), (e = .returned (.int .i64 er) ∧ w = w') → e = .returned (.int .i64 (sendErr (R.map Ltr.val) C room f t d)) ∧ RI n w' g (sendV (R.map Ltr.val) C room f t d) C room N ∧ Keep badR n w w' := by
    rintro er hne he e w' ⟨rfl, rfl⟩
    exact same er hne he _ _ ⟨rfl, Below.refl _ _⟩
  cases hok : okB f t
  · exact (refSend_bad f t D c d w hok).mono (same' 1 (by decide) (by rw [sendErr, if_pos hok]))
  · by_cases hd : 65536 < d.length
    · exact (refSend_large f t D c d w hok hd).mono (same' 7 (by decide) (by rw [sendErr, if_neg (by simp [hok]), if_pos hd]))
    · cases hc : C (f, t)
      · have hg : (f, t) ∉ Cs := by rw [hC] at hc; simpa using hc
        by_cases hr : room ≤ (R.length : Int)
        · exact (refSend_full f t D c d w h1 hok (by omega) hg hr).mono (same 10 (by decide) (by rw [sendErr, if_neg (by simp [hok]), if_neg hd, if_neg (by simp [hc]), if_pos (by rw [List.length_map]; exact hr)]))
        · have he : sendErr (R.map Ltr.val) C room f t d = 0 := by rw [sendErr, if_neg (by simp [hok]), if_neg hd, if_neg (by simp [hc]), if_neg (by rw [List.length_map]; exact hr)]
          refine (refSend f t D c d w h1 hok (by omega) hg (by omega) (by omega) hD).mono ?_
          rintro e w' ⟨A', cap', D', c', d', rfl, hd', hp, hm, hdf, haf⟩
          refine ⟨by rw [he], ⟨_, A', cap', Cs, B, capB, hp, ⟨hf.1, fun b hb => ?_, hf.2.2.1, fun r hr b hb => ?_⟩, ?_, hCn, hC, hCN⟩, h1.keep hf.1 hf.2.1 hn hm⟩
          · rcases haf with e | e
            · rw [e] at hb; exact hf.2.1 b hb
            · exact Nat.le_trans hn (e b hb)
          · rcases List.mem_append.1 hr with hr | hr
            · exact hf.2.2.2 r hr b hb
            · rw [List.mem_singleton] at hr
              subst hr
              exact Nat.le_trans hn (hdf b hb)
          · rw [sendV, if_pos he, List.map_append, ← hd'.out]
            rfl
      · have hg : (f, t) ∈ Cs := by rw [hC] at hc; simpa using hc
        exact (refSend_cut f t D c d w h1 hok (by omega) hg).mono (same' 11 (by decide) (by rw [sendErr, if_neg (by simp [hok]), if_neg hd, if_pos hc]))

/-- What act does to what is on the way, and to the ways. -/
def actV (V : List Val) (C : Int × Int → Bool) (room k a b : Int) (d : List UInt8) : List Val :=
  if k = 1 then sendV V C room a b d else if k = 2 then (if 0 ≤ a ∧ a < (V.length : Int) then V.eraseIdx a.toNat else V) else if k = 3 then (if twinErr V room a = 0 then V ++ [(atV V a).1] else V) else V
def actC (C : Int × Int → Bool) (k a b : Int) : Int × Int → Bool := if okB a b = true then (if k = 4 then setC C (a, b) true else if k = 5 then setC C (a, b) false else C) else C

theorem RI.more {N' : Nat} (h : RI n w g V C room N) (hN : N ≤ N') : RI n w g V C room N' := by
  obtain ⟨R, A, cap, Cs, B, capB, h1, hf, hv, hCn, hC, hCN⟩ := h
  exact ⟨R, A, cap, Cs, B, capB, h1, hf, hv, hCn, hC, Nat.le_trans hCN hN⟩
theorem actV_same {k a b : Int} {d : List UInt8} (h1 : k ≠ 1) (h2 : k ≠ 2) (h3 : k ≠ 3) : actV V C room k a b d = V := by rw [actV, if_neg h1, if_neg h2, if_neg h3]
theorem actC_same {k a b : Int} (h1 : k ≠ 4) (h2 : k ≠ 5) : actC C k a b = C := by simp [actC, h1, h2]
theorem BothE.below {e : Ending} {w1 w2 : World} (h : BothE n g g2 V C room room N w e w1) (hn : n ≤ w1.heap.size) (hb : Below w1.heap.size w1 w2) : BothE n g g2 V C room room N w e w2 := by
  obtain ⟨rfl, p, r, b⟩ := h
  exact ⟨rfl, p.below hb, r.below hb, b.trans (hb.mono hn)⟩
theorem both_of_below {w1 w2 : World} {k a b : Int} {d : List UInt8} (hv : actV V C room k a b d = V) (hc : actC C k a b = C) (h : PI n w1 g V C room) (r : RI n w1 g2 V C room N) (hB : Below n w w1) (hb : Below w1.heap.size w1 w2) : BothE n g g2 (actV V C room k a b d) (actC C k a b) room room (N + 1) w (.returned (.bool true)) w2 := by
  rw [hv, hc]
  exact ⟨rfl, h.below hb, (r.below hb).more (Nat.le_succ _), hB.trans (hb.mono (by obtain ⟨R, A, cap, m, es, h1, hf, _⟩ := h; have := h1.blk.lt; exact Nat.le_of_lt (Nat.lt_of_le_of_lt hf.1 this)))⟩

set_option maxRecDepth 20000 in
set_option maxHeartbeats 8000000 in
theorem act_copy (k a b : Int) (D : Option Addr) (c : Nat) (d : List UInt8) (h : PI n w g V C room) (r : RI n w g2 V C room N) (hn : n ≤ w.heap.size) (hN : N < 4096) (hr0 : room ≤ 4096) (ha : I64 a) (hb : I64 b) (hD : ∀ w', Below n w w' → RB w' D d) (hd : d.length ≤ 140737488351232) (hk : k = 6) :
    Calls Try.prog 19 #[.pointer (some ⟨g, 0, none⟩), .pointer (some ⟨g2, 0, none⟩), .agg #[.int .i64 k, .int .i64 a, .int .i64 b, .slice D d.length c]] w (BothE n g g2 (actV V C room k a b d) (actC C k a b) room room (N + 1) w) := by
  subst hk
  have hbw := (Below.refl w.heap.size w).alloc (Nat.le_refl _) (.cells #[.int .i64 6, .int .i64 a, .int .i64 b, .slice D d.length c] 35)
  have hX := Blk.new w #[.int .i64 6, .int .i64 a, .int .i64 b, .slice D d.length c] 35
  obtain ⟨xb, hxb⟩ : ∃ xb, xb = w.heap.size := ⟨_, rfl⟩
  rw [← hxb] at hX
  have HXB := Lib.hid hxb
  have hn1 := Nat.le_trans hn hbw.size
  have h1 := h.below hbw
  have r1 := r.below hbw
  have hB1 := hbw.mono hn
  have HD := Lib.hid hD
  have x0 := hX.cell 0 rfl
  have x1 := hX.cell 1 rfl
  have x2 := hX.cell 2 rfl
  have x3 := hX.cell 3 rfl
  clear h r hn hxb hD hbw
  go_enter Try.func19, Try.ntmps19
  go_upto_region 1 with fail
  rw [← HXB.out]
  generalize w.alloc (.cells #[.int .i64 6, .int .i64 a, .int .i64 b, .slice D d.length c] 35) = w1 at *
  go_cut [7] (fun s7 wx => s7 = .bool (okB a b) ∧ w1 = wx)
  case first =>
    cases e1 : endB a
    · have he : okB a b = false := by simp [okB, e1]
      go_wp2_with fail
      refine (refEnd a _).mono ?_
      rintro e w' ⟨rfl, rfl⟩
      rw [e1]
      go_wp2_with fail
      go_meet
      exact ⟨by rw [he], rfl⟩
    · cases e2 : endB b
      · have he : okB a b = false := by simp [okB, e2]
        go_wp2_with fail
        refine (refEnd a _).mono ?_
        rintro e w' ⟨rfl, rfl⟩
        rw [e1]
        go_wp2_with fail
        refine (refEnd b _).mono ?_
        rintro e w' ⟨rfl, rfl⟩
        rw [e2]
        go_wp2_with fail
        go_meet
        exact ⟨by rw [he], rfl⟩
      · have he : okB a b = (a != b) := by simp [okB, e1, e2, bne]; by_cases hab : a = b <;> simp [hab]
        go_wp2_with fail
        refine (refEnd a _).mono ?_
        rintro e w' ⟨rfl, rfl⟩
        rw [e1]
        go_wp2_with fail
        refine (refEnd b _).mono ?_
        rintro e w' ⟨rfl, rfl⟩
        rw [e2]
        go_wp2_with fail
        go_meet
        exact ⟨by rw [he], rfl⟩
  case rest =>
  obtain ⟨rfl, rfl⟩ := hcut
  go_wp2_with fail
  go_ret
  exact both_of_below (actV_same (by decide) (by decide) (by decide)) (actC_same (by decide) (by decide)) h1 r1 hB1 (Below.refl _ _)

theorem lawLook_any (i : Int) (h : PI n w g V C room) (k : RI n w g2 V C room N) (hn : n ≤ w.heap.size) (hi : I64 i) :
    Calls Try.prog 29 #[.pointer (some ⟨g, 0, none⟩), .pointer (some ⟨g2, 0, none⟩), .int .i64 i, .bool false] w fun e w' => e = .returned (.bool true) ∧ Below w.heap.size w w' := by
  by_cases hr : i < 0 ∨ (V.length : Int) ≤ i
  · exact lawLook_out i h k hn hi hr
  · obtain ⟨j, rfl⟩ : ∃ j : Nat, i = (j : Int) := ⟨i.toNat, by omega⟩
    exact lawLook_in j h k hn (by omega)
theorem lawTake_any (i : Int) (h : PI n w g V C room) (k : RI n w g2 V C room N) (hn : n ≤ w.heap.size) (hi : I64 i) :
    Calls Try.prog 29 #[.pointer (some ⟨g, 0, none⟩), .pointer (some ⟨g2, 0, none⟩), .int .i64 i, .bool true] w (BothE n g g2 (if 0 ≤ i ∧ i < (V.length : Int) then V.eraseIdx i.toNat else V) C room room N w) := by
  by_cases hr : 0 ≤ i ∧ i < (V.length : Int)
  · rw [if_pos hr]
    obtain ⟨j, rfl⟩ : ∃ j : Nat, i = (j : Int) := ⟨i.toNat, by omega⟩
    rw [Int.toNat_natCast]
    exact lawTake_in j h k hn (by omega)
  · rw [if_neg hr]
    exact lawTake_out i h k hn hi (by omega)

set_option maxRecDepth 20000 in
set_option maxHeartbeats 8000000 in
theorem act_look (k a b : Int) (D : Option Addr) (c : Nat) (d : List UInt8) (h : PI n w g V C room) (r : RI n w g2 V C room N) (hn : n ≤ w.heap.size) (hN : N < 4096) (hr0 : room ≤ 4096) (ha : I64 a) (hb : I64 b) (hD : ∀ w', Below n w w' → RB w' D d) (hd : d.length ≤ 140737488351232) (n1 : k ≠ 1) (n2 : k ≠ 2) (n3 : k ≠ 3) (n4 : k ≠ 4) (n5 : k ≠ 5) (n6 : k ≠ 6) :
    Calls Try.prog 19 #[.pointer (some ⟨g, 0, none⟩), .pointer (some ⟨g2, 0, none⟩), .agg #[.int .i64 k, .int .i64 a, .int .i64 b, .slice D d.length c]] w (BothE n g g2 (actV V C room k a b d) (actC C k a b) room room (N + 1) w) := by
  have k1 : (k == 1) = false := by simpa using n1
  have k2 : (k == 2) = false := by simpa using n2
  have k3 : (k == 3) = false := by simpa using n3
  have k4 : (k == 4) = false := by simpa using n4
  have k5 : (k == 5) = false := by simpa using n5
  have k6 : (k == 6) = false := by simpa using n6
  have hbw := (Below.refl w.heap.size w).alloc (Nat.le_refl _) (.cells #[.int .i64 k, .int .i64 a, .int .i64 b, .slice D d.length c] 35)
  have hX := Blk.new w #[.int .i64 k, .int .i64 a, .int .i64 b, .slice D d.length c] 35
  obtain ⟨xb, hxb⟩ : ∃ xb, xb = w.heap.size := ⟨_, rfl⟩
  rw [← hxb] at hX
  have HXB := Lib.hid hxb
  have hn1 := Nat.le_trans hn hbw.size
  have h1 := h.below hbw
  have r1 := r.below hbw
  have hB1 := hbw.mono hn
  have HD := Lib.hid hD
  have x0 := hX.cell 0 rfl
  have x1 := hX.cell 1 rfl
  have x2 := hX.cell 2 rfl
  have x3 := hX.cell 3 rfl
  have M1 := Lib.hid n1
  have M2 := Lib.hid n2
  have M3 := Lib.hid n3
  have M4 := Lib.hid n4
  have M5 := Lib.hid n5
  clear h r hn hxb hD hbw n1 n2 n3 n4 n5 n6
  go_enter Try.func19, Try.ntmps19
  go_upto_region 1 with fail
  rw [← HXB.out]
  generalize w.alloc (.cells #[.int .i64 k, .int .i64 a, .int .i64 b, .slice D d.length c] 35) = w1 at *
  go_cut [7] (fun s7 wx => s7 = .bool (okB a b) ∧ w1 = wx)
  case first =>
    cases e1 : endB a
    · have he : okB a b = false := by simp [okB, e1]
      go_wp2_with fail
      refine (refEnd a _).mono ?_
      rintro e w' ⟨rfl, rfl⟩
      rw [e1]
      go_wp2_with fail
      go_meet
      exact ⟨by rw [he], rfl⟩
    · cases e2 : endB b
      · have he : okB a b = false := by simp [okB, e2]
        go_wp2_with fail
        refine (refEnd a _).mono ?_
        rintro e w' ⟨rfl, rfl⟩
        rw [e1]
        go_wp2_with fail
        refine (refEnd b _).mono ?_
        rintro e w' ⟨rfl, rfl⟩
        rw [e2]
        go_wp2_with fail
        go_meet
        exact ⟨by rw [he], rfl⟩
      · have he : okB a b = (a != b) := by simp [okB, e1, e2, bne]; by_cases hab : a = b <;> simp [hab]
        go_wp2_with fail
        refine (refEnd a _).mono ?_
        rintro e w' ⟨rfl, rfl⟩
        rw [e1]
        go_wp2_with fail
        refine (refEnd b _).mono ?_
        rintro e w' ⟨rfl, rfl⟩
        rw [e2]
        go_wp2_with fail
        go_meet
        exact ⟨by rw [he], rfl⟩
  case rest =>
  obtain ⟨rfl, rfl⟩ := hcut
  go_wp2_with fail
  refine (lawLook_any a h1 r1 hn1 ha).mono ?_
  rintro e w2 ⟨rfl, hb2⟩
  have HF := Lib.hid (both_of_below (k := k) (a := a) (b := b) (d := d) (actV_same M1.out M2.out M3.out) (actC_same M4.out M5.out) h1 r1 hB1 hb2)
  clear h1 r1 hB1 hb2 x0 x1 x2 x3
  go_wp2_with fail
  go_ret
  exact HF.out

set_option maxRecDepth 20000 in
set_option maxHeartbeats 8000000 in
theorem act_take (k a b : Int) (D : Option Addr) (c : Nat) (d : List UInt8) (h : PI n w g V C room) (r : RI n w g2 V C room N) (hn : n ≤ w.heap.size) (hN : N < 4096) (hr0 : room ≤ 4096) (ha : I64 a) (hb : I64 b) (hD : ∀ w', Below n w w' → RB w' D d) (hd : d.length ≤ 140737488351232) (hk : k = 2) :
    Calls Try.prog 19 #[.pointer (some ⟨g, 0, none⟩), .pointer (some ⟨g2, 0, none⟩), .agg #[.int .i64 k, .int .i64 a, .int .i64 b, .slice D d.length c]] w (BothE n g g2 (actV V C room k a b d) (actC C k a b) room room (N + 1) w) := by
  subst hk
  have hbw := (Below.refl w.heap.size w).alloc (Nat.le_refl _) (.cells #[.int .i64 2, .int .i64 a, .int .i64 b, .slice D d.length c] 35)
  have hX := Blk.new w #[.int .i64 2, .int .i64 a, .int .i64 b, .slice D d.length c] 35
  obtain ⟨xb, hxb⟩ : ∃ xb, xb = w.heap.size := ⟨_, rfl⟩
  rw [← hxb] at hX
  have HXB := Lib.hid hxb
  have hn1 := Nat.le_trans hn hbw.size
  have h1 := h.below hbw
  have r1 := r.below hbw
  have hB1 := hbw.mono hn
  have HD := Lib.hid hD
  have x0 := hX.cell 0 rfl
  have x1 := hX.cell 1 rfl
  have x2 := hX.cell 2 rfl
  have x3 := hX.cell 3 rfl
  clear h r hn hxb hD hbw
  go_enter Try.func19, Try.ntmps19
  go_upto_region 1 with fail
  rw [← HXB.out]
  generalize w.alloc (.cells #[.int .i64 2, .int .i64 a, .int .i64 b, .slice D d.length c] 35) = w1 at *
  go_cut [7] (fun s7 wx => s7 = .bool (okB a b) ∧ w1 = wx)
  case first =>
    cases e1 : endB a
    · have he : okB a b = false := by simp [okB, e1]
      go_wp2_with fail
      refine (refEnd a _).mono ?_
      rintro e w' ⟨rfl, rfl⟩
      rw [e1]
      go_wp2_with fail
      go_meet
      exact ⟨by rw [he], rfl⟩
    · cases e2 : endB b
      · have he : okB a b = false := by simp [okB, e2]
        go_wp2_with fail
        refine (refEnd a _).mono ?_
        rintro e w' ⟨rfl, rfl⟩
        rw [e1]
        go_wp2_with fail
        refine (refEnd b _).mono ?_
        rintro e w' ⟨rfl, rfl⟩
        rw [e2]
        go_wp2_with fail
        go_meet
        exact ⟨by rw [he], rfl⟩
      · have he : okB a b = (a != b) := by simp [okB, e1, e2, bne]; by_cases hab : a = b <;> simp [hab]
        go_wp2_with fail
        refine (refEnd a _).mono ?_
        rintro e w' ⟨rfl, rfl⟩
        rw [e1]
        go_wp2_with fail
        refine (refEnd b _).mono ?_
        rintro e w' ⟨rfl, rfl⟩
        rw [e2]
        go_wp2_with fail
        go_meet
        exact ⟨by rw [he], rfl⟩
  case rest =>
  obtain ⟨rfl, rfl⟩ := hcut
  go_wp2_with fail
  refine (lawTake_any a h1 r1 hn1 ha).mono ?_
  rintro e w2 ⟨rfl, h2, r2, hb2⟩
  have HF : Hid (BothE n g g2 (actV V C room 2 a b d) (actC C 2 a b) room room (N + 1) w (.returned (.bool true)) w2) := Lib.hid (by
    rw [actC_same (by decide) (by decide), actV, if_neg (by decide), if_pos rfl]
    exact ⟨rfl, h2, r2.more (Nat.le_succ _), hB1.trans hb2⟩)
  clear h1 r1 hB1 hb2 x0 x1 x2 x3 h2 r2
  go_wp2_with fail
  go_ret
  exact HF.out

set_option maxRecDepth 20000 in
set_option maxHeartbeats 8000000 in
theorem act_send (k a b : Int) (D : Option Addr) (c : Nat) (d : List UInt8) (h : PI n w g V C room) (r : RI n w g2 V C room N) (hn : n ≤ w.heap.size) (hN : N < 4096) (hr0 : room ≤ 4096) (ha : I64 a) (hb : I64 b) (hD : ∀ w', Below n w w' → RB w' D d) (hd : d.length ≤ 140737488351232) (hk : k = 1) :
    Calls Try.prog 19 #[.pointer (some ⟨g, 0, none⟩), .pointer (some ⟨g2, 0, none⟩), .agg #[.int .i64 k, .int .i64 a, .int .i64 b, .slice D d.length c]] w (BothE n g g2 (actV V C room k a b d) (actC C k a b) room room (N + 1) w) := by
  subst hk
  have hbw := (Below.refl w.heap.size w).alloc (Nat.le_refl _) (.cells #[.int .i64 1, .int .i64 a, .int .i64 b, .slice D d.length c] 35)
  have hX := Blk.new w #[.int .i64 1, .int .i64 a, .int .i64 b, .slice D d.length c] 35
  obtain ⟨xb, hxb⟩ : ∃ xb, xb = w.heap.size := ⟨_, rfl⟩
  rw [← hxb] at hX
  have HXB := Lib.hid hxb
  have hn1 := Nat.le_trans hn hbw.size
  have h1 := h.below hbw
  have r1 := r.below hbw
  have hB1 := hbw.mono hn
  have HD := Lib.hid hD
  have x0 := hX.cell 0 rfl
  have x1 := hX.cell 1 rfl
  have x2 := hX.cell 2 rfl
  have x3 := hX.cell 3 rfl
  clear h r hn hxb hD hbw
  go_enter Try.func19, Try.ntmps19
  go_upto_region 1 with fail
  rw [← HXB.out]
  generalize w.alloc (.cells #[.int .i64 1, .int .i64 a, .int .i64 b, .slice D d.length c] 35) = w1 at *
  go_cut [7] (fun s7 wx => s7 = .bool (okB a b) ∧ w1 = wx)
  case first =>
    cases e1 : endB a
    · have he : okB a b = false := by simp [okB, e1]
      go_wp2_with fail
      refine (refEnd a _).mono ?_
      rintro e w' ⟨rfl, rfl⟩
      rw [e1]
      go_wp2_with fail
      go_meet
      exact ⟨by rw [he], rfl⟩
    · cases e2 : endB b
      · have he : okB a b = false := by simp [okB, e2]
        go_wp2_with fail
        refine (refEnd a _).mono ?_
        rintro e w' ⟨rfl, rfl⟩
        rw [e1]
        go_wp2_with fail
        refine (refEnd b _).mono ?_
        rintro e w' ⟨rfl, rfl⟩
        rw [e2]
        go_wp2_with fail
        go_meet
        exact ⟨by rw [he], rfl⟩
      · have he : okB a b = (a != b) := by simp [okB, e1, e2, bne]; by_cases hab : a = b <;> simp [hab]
        go_wp2_with fail
        refine (refEnd a _).mono ?_
        rintro e w' ⟨rfl, rfl⟩
        rw [e1]
        go_wp2_with fail
        refine (refEnd b _).mono ?_
        rintro e w' ⟨rfl, rfl⟩
        rw [e2]
        go_wp2_with fail
        go_meet
        exact ⟨by rw [he], rfl⟩
  case rest =>
  obtain ⟨rfl, rfl⟩ := hcut
  go_wp2_with fail
  refine wp_region_planE_gen (by kernel_rfl) [(0, none), (1, none), (2, none), (3, none), (4, none), (6, none), (7, none), (10, none), (11, none), (12, none), (13, none), (14, none), (15, none), (16, none), (5, some []), (8, some [7]), (9, some [0, 2, 4]), (17, some [10, 12, 14, 16]), (18, none), (19, none)] (by kernel_rfl) (by kernel_rfl) (by decide) ?_
  intro wq hwq
  have hbq : Below w1.heap.size w1 wq := by rw [hwq]; exact (Below.refl _ _).drew
  have hBq := hB1.trans (hbq.mono hn1)
  have hPq := h1.below hbq
  have hRq := r1.below hbq
  have hXq := hX.kept hbq
  have hnq := Nat.le_trans hn1 hbq.size
  clear x0 x1 x2 x3 hwq hbq h1 r1 hX hB1 hn1
  have x1 := hXq.cell 1 rfl
  have x2 := hXq.cell 2 rfl
  have x3 := hXq.cell 3 rfl
  iterate 2 (refine planE_pure (v := ?_) rfl (by rfl) (fun w' => ?_) ?_; rotate_left; (focus (simp only [List.getElem_toArray, List.getElem_cons_succ, List.getElem_cons_zero]; go_simp; first | with_reducible rfl | (simp (disch := omega) only [if_pos, if_neg, Result.andThen_ok]; try with_reducible rfl) | skip)); try simp only [List.getElem_toArray, List.getElem_cons_succ, List.getElem_cons_zero, Act.put, List.setIfInBounds_toArray, List.set_cons_zero, List.set_cons_succ])
  refine planE_cells (v := ?_) [(⟨xb, 1, none⟩, .int .i64 a)] (by simp; and_intros <;> assumption) rfl (by rfl) (fun w' hw' => ?_) ?_; rotate_left; (focus (simp only [List.forall_mem_cons, List.not_mem_nil, false_imp_iff, implies_true, and_true] at hw'; simp only [List.getElem_toArray, List.getElem_cons_succ, List.getElem_cons_zero]; go_simp; first | with_reducible rfl | (simp (disch := omega) only [if_pos, if_neg, Result.andThen_ok]; try with_reducible rfl) | skip)); try simp only [List.getElem_toArray, List.getElem_cons_succ, List.getElem_cons_zero, Act.put, List.setIfInBounds_toArray, List.set_cons_zero, List.set_cons_succ]
  iterate 1 (refine planE_pure (v := ?_) rfl (by rfl) (fun w' => ?_) ?_; rotate_left; (focus (simp only [List.getElem_toArray, List.getElem_cons_succ, List.getElem_cons_zero]; go_simp; first | with_reducible rfl | (simp (disch := omega) only [if_pos, if_neg, Result.andThen_ok]; try with_reducible rfl) | skip)); try simp only [List.getElem_toArray, List.getElem_cons_succ, List.getElem_cons_zero, Act.put, List.setIfInBounds_toArray, List.set_cons_zero, List.set_cons_succ])
  refine planE_cells (v := ?_) [(⟨xb, 2, none⟩, .int .i64 b)] (by simp; and_intros <;> assumption) rfl (by rfl) (fun w' hw' => ?_) ?_; rotate_left; (focus (simp only [List.forall_mem_cons, List.not_mem_nil, false_imp_iff, implies_true, and_true] at hw'; simp only [List.getElem_toArray, List.getElem_cons_succ, List.getElem_cons_zero]; go_simp; first | with_reducible rfl | (simp (disch := omega) only [if_pos, if_neg, Result.andThen_ok]; try with_reducible rfl) | skip)); try simp only [List.getElem_toArray, List.getElem_cons_succ, List.getElem_cons_zero, Act.put, List.setIfInBounds_toArray, List.set_cons_zero, List.set_cons_succ]
  iterate 1 (refine planE_pure (v := ?_) rfl (by rfl) (fun w' => ?_) ?_; rotate_left; (focus (simp only [List.getElem_toArray, List.getElem_cons_succ, List.getElem_cons_zero]; go_simp; first | with_reducible rfl | (simp (disch := omega) only [if_pos, if_neg, Result.andThen_ok]; try with_reducible rfl) | skip)); try simp only [List.getElem_toArray, List.getElem_cons_succ, List.getElem_cons_zero, Act.put, List.setIfInBounds_toArray, List.set_cons_zero, List.set_cons_succ])
  refine planE_cells (v := ?_) [(⟨xb, 3, none⟩, .slice D d.length c)] (by simp; and_intros <;> assumption) rfl (by rfl) (fun w' hw' => ?_) ?_; rotate_left; (focus (simp only [List.forall_mem_cons, List.not_mem_nil, false_imp_iff, implies_true, and_true] at hw'; simp only [List.getElem_toArray, List.getElem_cons_succ, List.getElem_cons_zero]; go_simp; first | with_reducible rfl | (simp (disch := omega) only [if_pos, if_neg, Result.andThen_ok]; try with_reducible rfl) | skip)); try simp only [List.getElem_toArray, List.getElem_cons_succ, List.getElem_cons_zero, Act.put, List.setIfInBounds_toArray, List.set_cons_zero, List.set_cons_succ]
  iterate 2 (refine planE_pure (v := ?_) rfl (by rfl) (fun w' => ?_) ?_; rotate_left; (focus (simp only [List.getElem_toArray, List.getElem_cons_succ, List.getElem_cons_zero]; go_simp; first | with_reducible rfl | (simp (disch := omega) only [if_pos, if_neg, Result.andThen_ok]; try with_reducible rfl) | skip)); try simp only [List.getElem_toArray, List.getElem_cons_succ, List.getElem_cons_zero, Act.put, List.setIfInBounds_toArray, List.set_cons_zero, List.set_cons_succ])
  refine planE_cells (v := ?_) [(⟨xb, 1, none⟩, .int .i64 a)] (by simp; and_intros <;> assumption) rfl (by rfl) (fun w' hw' => ?_) ?_; rotate_left; (focus (simp only [List.forall_mem_cons, List.not_mem_nil, false_imp_iff, implies_true, and_true] at hw'; simp only [List.getElem_toArray, List.getElem_cons_succ, List.getElem_cons_zero]; go_simp; first | with_reducible rfl | (simp (disch := omega) only [if_pos, if_neg, Result.andThen_ok]; try with_reducible rfl) | skip)); try simp only [List.getElem_toArray, List.getElem_cons_succ, List.getElem_cons_zero, Act.put, List.setIfInBounds_toArray, List.set_cons_zero, List.set_cons_succ]
  iterate 1 (refine planE_pure (v := ?_) rfl (by rfl) (fun w' => ?_) ?_; rotate_left; (focus (simp only [List.getElem_toArray, List.getElem_cons_succ, List.getElem_cons_zero]; go_simp; first | with_reducible rfl | (simp (disch := omega) only [if_pos, if_neg, Result.andThen_ok]; try with_reducible rfl) | skip)); try simp only [List.getElem_toArray, List.getElem_cons_succ, List.getElem_cons_zero, Act.put, List.setIfInBounds_toArray, List.set_cons_zero, List.set_cons_succ])
  refine planE_cells (v := ?_) [(⟨xb, 2, none⟩, .int .i64 b)] (by simp; and_intros <;> assumption) rfl (by rfl) (fun w' hw' => ?_) ?_; rotate_left; (focus (simp only [List.forall_mem_cons, List.not_mem_nil, false_imp_iff, implies_true, and_true] at hw'; simp only [List.getElem_toArray, List.getElem_cons_succ, List.getElem_cons_zero]; go_simp; first | with_reducible rfl | (simp (disch := omega) only [if_pos, if_neg, Result.andThen_ok]; try with_reducible rfl) | skip)); try simp only [List.getElem_toArray, List.getElem_cons_succ, List.getElem_cons_zero, Act.put, List.setIfInBounds_toArray, List.set_cons_zero, List.set_cons_succ]
  iterate 1 (refine planE_pure (v := ?_) rfl (by rfl) (fun w' => ?_) ?_; rotate_left; (focus (simp only [List.getElem_toArray, List.getElem_cons_succ, List.getElem_cons_zero]; go_simp; first | with_reducible rfl | (simp (disch := omega) only [if_pos, if_neg, Result.andThen_ok]; try with_reducible rfl) | skip)); try simp only [List.getElem_toArray, List.getElem_cons_succ, List.getElem_cons_zero, Act.put, List.setIfInBounds_toArray, List.set_cons_zero, List.set_cons_succ])
  refine planE_cells (v := ?_) [(⟨xb, 3, none⟩, .slice D d.length c)] (by simp; and_intros <;> assumption) rfl (by rfl) (fun w' hw' => ?_) ?_; rotate_left; (focus (simp only [List.forall_mem_cons, List.not_mem_nil, false_imp_iff, implies_true, and_true] at hw'; simp only [List.getElem_toArray, List.getElem_cons_succ, List.getElem_cons_zero]; go_simp; first | with_reducible rfl | (simp (disch := omega) only [if_pos, if_neg, Result.andThen_ok]; try with_reducible rfl) | skip)); try simp only [List.getElem_toArray, List.getElem_cons_succ, List.getElem_cons_zero, Act.put, List.setIfInBounds_toArray, List.set_cons_zero, List.set_cons_succ]
  refine planE_eff rfl (by rfl) (fun K hK => ?_)
  go_simp
  have hb2 : Below wq.heap.size wq (wq.alloc (.cells #[] 5)) := (Below.refl _ _).alloc (Nat.le_refl _) _
  have hO2 := OB.made0 wq (Nat.le_refl _)
  have hD2 := HD.out _ (hBq.trans (hb2.mono hnq))
  have hX2 := hXq.kept hb2
  clear x1 x2 x3
  have x1 := hX2.cell 1 rfl
  have x2 := hX2.cell 2 rfl
  have x3 := hX2.cell 3 rfl
  refine hK _ _ (by simp [owed, left] <;> (and_intros <;> first | trivial | assumption)) ?_
  clear hK K
  try simp only [List.getElem_toArray, List.getElem_cons_succ, List.getElem_cons_zero, Act.put, List.setIfInBounds_toArray, List.set_cons_zero, List.set_cons_succ]
  refine planE_eff rfl (by rfl) (fun K hK => ?_)
  refine op_appendB _ (.tmp 38) (.tmp 40) (by rfl) wq.heap.size _ D 0 c [] d (by rfl) (by rfl) hO2 hD2 (by simp; omega) hb2.size ?_
  intro d' D' c' w3 hd3 hd1 hd2 ho3 hg3
  have hb3 : Below wq.heap.size wq w3 := hb2.grown hg3 (by simp) (by simp [Value.ownBlock])
  have hB3 := hBq.trans (hb3.mono hnq)
  have hP3 := hPq.below hb3
  have hR3 := hRq.below hb3
  have hX3 := hXq.kept hb3
  have hn3 : n ≤ w3.heap.size := Nat.le_trans hnq hb3.size
  have hd' : Hid (d' = d) := Lib.hid (by simpa using hd3.out)
  clear x1 x2 x3 hO2 hD2 hd3 hg3 hb3 hBq hPq hRq hXq hX2 hb2 hnq
  have x1 := hX3.cell 1 rfl
  have x2 := hX3.cell 2 rfl
  have x3 := hX3.cell 3 rfl
  refine hK _ _ (by simp [owed, left] <;> (and_intros <;> first | trivial | assumption)) ?_
  clear hK K
  try simp only [List.getElem_toArray, List.getElem_cons_succ, List.getElem_cons_zero, Act.put, List.setIfInBounds_toArray, List.set_cons_zero, List.set_cons_succ]
  refine planE_eff rfl (by rfl) (fun K hK => ?_)
  go_simp
  refine (postSendI a b D' c' d' hP3 hn3 ho3.rb).mono ?_
  rintro e w4 ⟨rfl, hP4, hK4⟩
  rw [hd'.out] at hP4 ⊢
  have hR4 := hR3.tm hK4.tm
  have hB4 := hB3.trans hK4.below
  have hX4 := hX3.tm hK4.tm (by simp [badP])
  have hn4 := Nat.le_trans hn3 hK4.tm.size
  clear x1 x2 x3 hP3 hR3 hX3 hK4 ho3 hB3 hd1 hd2
  have x1 := hX4.cell 1 rfl
  have x2 := hX4.cell 2 rfl
  have x3 := hX4.cell 3 rfl
  refine hK _ _ (by simp [owed, left] <;> (and_intros <;> first | trivial | assumption)) ?_
  clear hK K
  try simp only [List.getElem_toArray, List.getElem_cons_succ, List.getElem_cons_zero, Act.put, List.setIfInBounds_toArray, List.set_cons_zero, List.set_cons_succ]
  refine planE_eff rfl (by rfl) (fun K hK => ?_)
  go_simp
  refine (refSendI a b D c d hR4 hr0 hn4 (HD.out _ hB4)).mono ?_
  rintro e w5 ⟨rfl, hR5, hK5⟩
  have HF : Hid (BothE n g g2 (actV V C room 1 a b d) (actC C 1 a b) room room (N + 1) w (.returned (.bool true)) w5) := Lib.hid (by
    rw [actC_same (by decide) (by decide), actV, if_pos rfl]
    exact ⟨rfl, hP4.tm hK5.tm, hR5.more (Nat.le_succ _), hB4.trans hK5.below⟩)
  clear x1 x2 x3 hP4 hR4 hR5 hK5 hB4 hX4
  generalize sendErr V C room a b d = er at *
  refine hK _ _ (by simp [owed, left] <;> (and_intros <;> first | trivial | assumption)) ?_
  clear hK K
  try simp only [List.getElem_toArray, List.getElem_cons_succ, List.getElem_cons_zero, Act.put, List.setIfInBounds_toArray, List.set_cons_zero, List.set_cons_succ]
  iterate 2 (refine planE_pure (v := ?_) rfl (by rfl) (fun w' => ?_) ?_; rotate_left; (focus (simp only [List.getElem_toArray, List.getElem_cons_succ, List.getElem_cons_zero]; go_simp; first | with_reducible rfl | (simp (disch := omega) only [if_pos, if_neg, Result.andThen_ok]; try with_reducible rfl) | skip)); try simp only [List.getElem_toArray, List.getElem_cons_succ, List.getElem_cons_zero, Act.put, List.setIfInBounds_toArray, List.set_cons_zero, List.set_cons_succ])
  refine planE_end ?_
  go_wp2_with fail
  go_ret
  exact HF.out

theorem RefR.addCut {w w5 : World} {R : List Ltr} {A : Option Addr} {cap : Nat} {Cs : List (Int × Int)} {B B' : Option Addr} {capB capB' : Nat} (h : RefR w g2 R A cap Cs B capB room) (x : Int × Int) (ys : List (List Value)) (hys : ys = Cs.map pairCells ++ [pairCells x]) (hrow5 : OR w5 0 70 2 B' capB' ys) (hg5 : w.grownBy w5 (B.map (·.block))) (hB5 : B'.map (·.block) = B.map (·.block) ∨ B'.map (·.block) = some w.heap.size) (hl : Cs.length < 4096) :
    RefR (w5.setCell ⟨g2, 2, none⟩ (.slice B' ys.length capB')) g2 R A cap (Cs ++ [x]) B' capB' room ∧ Mods (PF g2 B) w (w5.setCell ⟨g2, 2, none⟩ (.slice B' ys.length capB')) := by
  have hk5 := h.blk.grown hg5 h.cuts_ne_var
  have hA5 := h.row.grown_row hg5 (h.row.ne_OR h.cuts (by decide))
  have hd5 : ∀ r ∈ R, OB w5 0 r.A r.c r.d ∧ r.d.length ≤ 65536 := fun r hr => ⟨(h.data r hr).1.grown_row hg5 ((h.data r hr).1.ne_row h.cuts (by decide)), (h.data r hr).2⟩
  have hm5 : Mods (PF g2 B) w w5 := .of_grown hg5 fun k hk => .inr hk
  have hBg : B'.map (·.block) ≠ some g2 := by
    rcases hB5 with e | e
    · rw [e]; exact h.cuts_ne_var
    · rw [e]; have := h.blk.lt; intro e'; injection e' with e'; omega
  have hk6 := hk5.setCell 2 (.slice B' ys.length capB')
  rw [show (#[.int .i64 room, .slice A R.length cap, .slice B Cs.length capB] : Array Value).setIfInBounds 2 (.slice B' ys.length capB') = #[.int .i64 room, .slice A R.length cap, .slice B' ys.length capB'] from rfl] at hk6
  have hyl : ys.length = Cs.length + 1 := by rw [hys]; simp
  refine ⟨⟨by rw [List.length_append, List.length_singleton, ← hyl]; exact hk6, hA5.setCell_ne (p := ⟨g2, 2, none⟩) h.ne_row _, fun r hr => ⟨(hd5 r hr).1.setCell_ne (p := ⟨g2, 2, none⟩) ((hd5 r hr).1.ne_var hk5 (by decide)) _, (hd5 r hr).2⟩, ?_, h.fits.1, by simp; omega⟩, hm5.setCell ⟨g2, 2, none⟩ (.inl (.inl rfl)) _⟩
  rw [List.map_append, List.map_singleton, ← hys]
  exact hrow5.setCell_ne (p := ⟨g2, 2, none⟩) hBg _
theorem RefR.keepC {R : List Ltr} {A : Option Addr} {cap : Nat} {Cs : List (Int × Int)} {B : Option Addr} {capB : Nat} (h : RefR w g R A cap Cs B capB room) (hg : n ≤ g) (hB : ∀ b, B.map (·.block) = some b → n ≤ b) (hn : n ≤ w.heap.size) (hm : Mods (PF g B) w w') : Keep badR n w w' :=
  ⟨hm.old (Below.refl _ _) hn (fun i _ hi => by
    rcases hi with rfl | hi
    · exact hg
    · exact hB i hi), TM.mods hm fun b o hb hS => by
    rcases hS with rfl | hS
    · rw [show w.heap[b]? = _ from h.blk] at hb
      injection hb with hb
      subst hb
      exact .inl rfl
    · obtain ⟨cs, hc⟩ := h.cuts.blk b hS
      rw [hc] at hb
      injection hb with hb
      subst hb
      exact .inr (.inr rfl)⟩
theorem nodup_erase {L : List (Int × Int)} (hn : L.Nodup) {k : Nat} {x : Int × Int} (hk : L[k]? = some x) (y : Int × Int) : y ∈ L.eraseIdx k ↔ y ∈ L ∧ y ≠ x := by
  induction L generalizing k with
  | nil => simp at hk
  | cons a L ih =>
    rw [List.nodup_cons] at hn
    cases k with
    | zero =>
      simp only [List.getElem?_cons_zero, Option.some.injEq] at hk
      subst hk
      simp only [List.eraseIdx_cons_zero, List.mem_cons]
      exact ⟨fun h => ⟨.inr h, fun e => hn.1 (e ▸ h)⟩, fun h => h.1.resolve_left h.2⟩
    | succ k =>
      simp only [List.getElem?_cons_succ] at hk
      have hx := List.mem_of_getElem? hk
      simp only [List.eraseIdx_cons_succ, List.mem_cons, ih hn.2 hk]
      constructor
      · rintro (rfl | ⟨h1, h2⟩)
        · exact ⟨.inl rfl, fun e => hn.1 (e ▸ hx)⟩
        · exact ⟨.inr h1, h2⟩
      · rintro ⟨rfl | h1, h2⟩
        · exact .inl rfl
        · exact .inr ⟨h1, h2⟩

set_option maxRecDepth 20000 in
set_option maxHeartbeats 8000000 in
theorem act_cut (k a b : Int) (D : Option Addr) (c : Nat) (d : List UInt8) (h : PI n w g V C room) (r : RI n w g2 V C room N) (hn : n ≤ w.heap.size) (hN : N < 4096) (hr0 : room ≤ 4096) (ha : I64 a) (hb : I64 b) (hD : ∀ w', Below n w w' → RB w' D d) (hd : d.length ≤ 140737488351232) (hk : k = 4) :
    Calls Try.prog 19 #[.pointer (some ⟨g, 0, none⟩), .pointer (some ⟨g2, 0, none⟩), .agg #[.int .i64 k, .int .i64 a, .int .i64 b, .slice D d.length c]] w (BothE n g g2 (actV V C room k a b d) (actC C k a b) room room (N + 1) w) := by
  subst hk
  have hbw := (Below.refl w.heap.size w).alloc (Nat.le_refl _) (.cells #[.int .i64 4, .int .i64 a, .int .i64 b, .slice D d.length c] 35)
  have hX := Blk.new w #[.int .i64 4, .int .i64 a, .int .i64 b, .slice D d.length c] 35
  obtain ⟨xb, hxb⟩ : ∃ xb, xb = w.heap.size := ⟨_, rfl⟩
  rw [← hxb] at hX
  have HXB := Lib.hid hxb
  have hn1 := Nat.le_trans hn hbw.size
  have h1 := h.below hbw
  have r1 := r.below hbw
  have hB1 := hbw.mono hn
  have HD := Lib.hid hD
  have x0 := hX.cell 0 rfl
  have x1 := hX.cell 1 rfl
  have x2 := hX.cell 2 rfl
  have x3 := hX.cell 3 rfl
  clear h r hn hxb hD hbw
  go_enter Try.func19, Try.ntmps19
  go_upto_region 1 with fail
  rw [← HXB.out]
  generalize w.alloc (.cells #[.int .i64 4, .int .i64 a, .int .i64 b, .slice D d.length c] 35) = w1 at *
  go_cut [7] (fun s7 wx => s7 = .bool (okB a b) ∧ w1 = wx)
  case first =>
    cases e1 : endB a
    · have he : okB a b = false := by simp [okB, e1]
      go_wp2_with fail
      refine (refEnd a _).mono ?_
      rintro e w' ⟨rfl, rfl⟩
      rw [e1]
      go_wp2_with fail
      go_meet
      exact ⟨by rw [he], rfl⟩
    · cases e2 : endB b
      · have he : okB a b = false := by simp [okB, e2]
        go_wp2_with fail
        refine (refEnd a _).mono ?_
        rintro e w' ⟨rfl, rfl⟩
        rw [e1]
        go_wp2_with fail
        refine (refEnd b _).mono ?_
        rintro e w' ⟨rfl, rfl⟩
        rw [e2]
        go_wp2_with fail
        go_meet
        exact ⟨by rw [he], rfl⟩
      · have he : okB a b = (a != b) := by simp [okB, e1, e2, bne]; by_cases hab : a = b <;> simp [hab]
        go_wp2_with fail
        refine (refEnd a _).mono ?_
        rintro e w' ⟨rfl, rfl⟩
        rw [e1]
        go_wp2_with fail
        refine (refEnd b _).mono ?_
        rintro e w' ⟨rfl, rfl⟩
        rw [e2]
        go_wp2_with fail
        go_meet
        exact ⟨by rw [he], rfl⟩
  case rest =>
  obtain ⟨rfl, rfl⟩ := hcut
  go_wp2_with fail
  refine (postCutI a b h1 hn1).mono ?_
  rintro e w2 ⟨rfl, hP2, hK2⟩
  have hR2 := r1.tm hK2.tm
  have hX2 := hX.tm hK2.tm (by simp [badP])
  have hB2 := hB1.trans hK2.below
  have hn2 := Nat.le_trans hn1 hK2.tm.size
  clear x0 x1 x2 x3 h1 r1 hX hB1 hK2 hn1
  have x1 := hX2.cell 1 rfl
  have x2 := hX2.cell 2 rfl
  have R0 := Lib.hid hR2
  obtain ⟨R, A, cap, Cs, B, capB, h2, hfr, hV, hCn, hC, hCN⟩ := hR2
  have hcl := h2.fits.2
  cases hok : okB a b
  · have HF : Hid (BothE n g g2 (actV V C room 4 a b d) (actC C 4 a b) room room (N + 1) w (.returned (.bool true)) w2) := Lib.hid (by
      rw [actV_same (by decide) (by decide) (by decide), actC, if_neg (by simp [hok])]
      rw [hok, if_neg (by decide)] at hP2
      exact ⟨rfl, hP2, R0.out.more (Nat.le_succ _), hB2⟩)
    rw [if_neg (by decide)]
    clear hP2 hB2 h2 hfr hV hCn hC hCN R0 hok
    go_wp2_with fail
    go_ret
    exact HF.out
  rw [if_pos rfl]
  rw [hok, if_pos rfl] at hP2
  have HK : Hid (∀ (w' : World), PI n w' g V (setC C (a, b) true) room → RI n w' g2 V (setC C (a, b) true) room (N + 1) → Below n w w' → BothE n g g2 (actV V C room 4 a b d) (actC C 4 a b) room room (N + 1) w (.returned (.bool true)) w') := Lib.hid (fun w' p r b => by
    rw [actV_same (by decide) (by decide) (by decide), actC, if_pos hok]
    exact ⟨rfl, p, r, b⟩)
  have HC := Lib.hid (refCut a b w2 h2)
  clear hok
  go_wp2_with fail
  refine HC.out.mono ?_
  rintro e w' ⟨rfl, ⟨hn, rfl⟩ | ⟨k, hk, rfl⟩⟩
  case inr =>
    have hkl : ¬ (k : Int) < 0 := by omega
    have HF := Lib.hid (HK.out _ hP2 ⟨R, A, cap, Cs, B, capB, h2, hfr, hV, hCn, fun x => (by
      unfold setC
      by_cases hx : x = (a, b)
      · subst hx
        simp [List.mem_of_getElem? hk]
      · rw [if_neg hx]
        exact hC x), Nat.le_succ_of_le hCN⟩ hB2)
    clear hP2 hB2 h2 hfr hV hCn hC hCN R0 HK HC hk
    go_wp2_with fail
    go_ret
    exact HF.out
  case inl =>
  have HN := Lib.hid hn
  have H2 := Lib.hid h2
  clear HC R0 hn
  go_wp2_with fail
  clear x1 x2
  refine wp_region_planE_gen (by kernel_rfl) [(0, none), (1, none), (2, none), (3, none), (4, none), (5, none), (6, none), (7, none), (8, none), (9, none), (10, some [9]), (11, some [4]), (12, none), (13, none), (14, some [0, 1, 2, 3, 4, 5, 6, 7, 8, 9, 13])] (by kernel_rfl) (by kernel_rfl) (by decide) ?_
  intro wq hwq
  have hbq : Below w2.heap.size w2 wq := by rw [hwq]; exact (Below.refl _ _).drew
  have x1 := (hX2.kept hbq).cell 1 rfl
  have x2 := (hX2.kept hbq).cell 2 rfl
  have c2 := (h2.below hbq).blk.cell 2 rfl
  clear hwq
  iterate 4 (refine planE_pure (v := ?_) rfl (by rfl) (fun w' => ?_) ?_; rotate_left; (focus (simp only [List.getElem_toArray, List.getElem_cons_succ, List.getElem_cons_zero]; go_simp; first | with_reducible rfl | (simp (disch := omega) only [if_pos, if_neg, Result.andThen_ok]; try with_reducible rfl) | skip)); try simp only [List.getElem_toArray, List.getElem_cons_succ, List.getElem_cons_zero, Act.put, List.setIfInBounds_toArray, List.set_cons_zero, List.set_cons_succ])
  refine planE_cells (v := ?_) [(⟨g2, 2, none⟩, .slice B Cs.length capB)] (by simp; and_intros <;> assumption) rfl (by rfl) (fun w' hw' => ?_) ?_; rotate_left; (focus (simp only [List.forall_mem_cons, List.not_mem_nil, false_imp_iff, implies_true, and_true] at hw'; simp only [List.getElem_toArray, List.getElem_cons_succ, List.getElem_cons_zero]; go_simp; first | with_reducible rfl | (simp (disch := omega) only [if_pos, if_neg, Result.andThen_ok]; try with_reducible rfl) | skip)); try simp only [List.getElem_toArray, List.getElem_cons_succ, List.getElem_cons_zero, Act.put, List.setIfInBounds_toArray, List.set_cons_zero, List.set_cons_succ]
  iterate 1 (refine planE_pure (v := ?_) rfl (by rfl) (fun w' => ?_) ?_; rotate_left; (focus (simp only [List.getElem_toArray, List.getElem_cons_succ, List.getElem_cons_zero]; go_simp; first | with_reducible rfl | (simp (disch := omega) only [if_pos, if_neg, Result.andThen_ok]; try with_reducible rfl) | skip)); try simp only [List.getElem_toArray, List.getElem_cons_succ, List.getElem_cons_zero, Act.put, List.setIfInBounds_toArray, List.set_cons_zero, List.set_cons_succ])
  refine planE_cells (v := ?_) [(⟨xb, 1, none⟩, .int .i64 a)] (by simp; and_intros <;> assumption) rfl (by rfl) (fun w' hw' => ?_) ?_; rotate_left; (focus (simp only [List.forall_mem_cons, List.not_mem_nil, false_imp_iff, implies_true, and_true] at hw'; simp only [List.getElem_toArray, List.getElem_cons_succ, List.getElem_cons_zero]; go_simp; first | with_reducible rfl | (simp (disch := omega) only [if_pos, if_neg, Result.andThen_ok]; try with_reducible rfl) | skip)); try simp only [List.getElem_toArray, List.getElem_cons_succ, List.getElem_cons_zero, Act.put, List.setIfInBounds_toArray, List.set_cons_zero, List.set_cons_succ]
  iterate 1 (refine planE_pure (v := ?_) rfl (by rfl) (fun w' => ?_) ?_; rotate_left; (focus (simp only [List.getElem_toArray, List.getElem_cons_succ, List.getElem_cons_zero]; go_simp; first | with_reducible rfl | (simp (disch := omega) only [if_pos, if_neg, Result.andThen_ok]; try with_reducible rfl) | skip)); try simp only [List.getElem_toArray, List.getElem_cons_succ, List.getElem_cons_zero, Act.put, List.setIfInBounds_toArray, List.set_cons_zero, List.set_cons_succ])
  refine planE_cells (v := ?_) [(⟨xb, 2, none⟩, .int .i64 b)] (by simp; and_intros <;> assumption) rfl (by rfl) (fun w' hw' => ?_) ?_; rotate_left; (focus (simp only [List.forall_mem_cons, List.not_mem_nil, false_imp_iff, implies_true, and_true] at hw'; simp only [List.getElem_toArray, List.getElem_cons_succ, List.getElem_cons_zero]; go_simp; first | with_reducible rfl | (simp (disch := omega) only [if_pos, if_neg, Result.andThen_ok]; try with_reducible rfl) | skip)); try simp only [List.getElem_toArray, List.getElem_cons_succ, List.getElem_cons_zero, Act.put, List.setIfInBounds_toArray, List.set_cons_zero, List.set_cons_succ]
  iterate 1 (refine planE_pure (v := ?_) rfl (by rfl) (fun w' => ?_) ?_; rotate_left; (focus (simp only [List.getElem_toArray, List.getElem_cons_succ, List.getElem_cons_zero]; go_simp; first | with_reducible rfl | (simp (disch := omega) only [if_pos, if_neg, Result.andThen_ok]; try with_reducible rfl) | skip)); try simp only [List.getElem_toArray, List.getElem_cons_succ, List.getElem_cons_zero, Act.put, List.setIfInBounds_toArray, List.set_cons_zero, List.set_cons_succ])
  refine planE_eff rfl (by rfl) (fun K hK => ?_)
  go_simp
  have hb4 : Below wq.heap.size wq (wq.alloc (.cells #[.int .i64 a, .int .i64 b] 70)) := (Below.refl _ _).alloc (Nat.le_refl _) _
  have hL4 := Blk.new wq #[.int .i64 a, .int .i64 b] 70
  have hB4 := hbq.trans (hb4.mono hbq.size)
  obtain ⟨lb, hlb⟩ : ∃ lb, lb = wq.heap.size := ⟨_, rfl⟩
  rw [← hlb] at hL4 ⊢
  generalize wq.alloc (.cells #[.int .i64 a, .int .i64 b] 70) = w4 at *
  clear c2 x1 x2 hbq hb4 hlb
  have hX4 := hX2.kept hB4
  have x1 := hX4.cell 1 rfl
  have x2 := hX4.cell 2 rfl
  have c2 := (h2.below hB4).blk.cell 2 rfl
  refine hK _ _ (by simp [owed, left] <;> (and_intros <;> first | trivial | assumption)) ?_
  clear hK K
  try simp only [List.getElem_toArray, List.getElem_cons_succ, List.getElem_cons_zero, Act.put, List.setIfInBounds_toArray, List.set_cons_zero, List.set_cons_succ]
  refine planE_eff rfl (by rfl) (fun K hK => ?_)
  obtain ⟨i0, hi0, hz0, hz1, hz2⟩ := info_parts pair_info
  have h4 := h2.below hB4
  refine op_appendS w4 (.tmp 135) (.tmp 141) 43 70 (by rfl) Try.underlying43 hi0 hz0 hz1 hz2 rfl (by decide) 0 B (some ⟨lb, 0, none⟩) capB 1 (Cs.map pairCells) [[.int .i64 a, .int .i64 b]] (by simp; rfl) (by rfl) h4.cuts (RS.lit hL4) (by simp) (by simp [Value.oneCell']) (by simp; omega) (by simp; omega) (Nat.zero_le _) ?_
  intro ys B' capB' w5 hys hy1 hy2 hrow5 hg5 hB5
  have hk5 := h4.blk.grown hg5 h4.cuts_ne_var
  have hX5 := hX4.grown hg5 (h4.cuts.ne_var hX4 (by decide))
  clear x1 x2 c2
  have x1 := hX5.cell 1 rfl
  have x2 := hX5.cell 2 rfl
  obtain ⟨h6, hm6⟩ := h4.addCut (a, b) ys hys.out hrow5 hg5 hB5 (by omega)
  have hK6 := h4.keepC hfr.1 hfr.2.2.1 (Nat.le_trans hn2 hB4.size) hm6
  have hP4 := hP2.below hB4
  have hs4 := hB4.size
  have HF := Lib.hid (HK.out _ (hP4.tm hK6.tm) ⟨R, A, cap, _, B', capB', h6, ⟨hfr.1, hfr.2.1, fun b hb => (by
      rcases hB5 with e | e
      · rw [e] at hb; exact hfr.2.2.1 b hb
      · rw [e] at hb; injection hb with hb; omega), hfr.2.2.2⟩, hV, (by
      rw [List.nodup_append]
      exact ⟨hCn, by simp, fun p hp q hq e => HN.out (by rw [List.mem_singleton] at hq; rw [← hq, ← e]; exact hp)⟩), fun x => (by
      unfold setC
      by_cases hx : x = (a, b)
      · subst hx
        simp
      · rw [if_neg hx, hC x]
        simp [hx]), (by simp; omega)⟩ ((hB2.trans (hB4.mono hn2)).trans hK6.below))
  clear HK h6 hm6 hK6 hP4 hs4 h4 hB4 hL4 hrow5 hg5 hB5 hys H2 hP2 hB2 hfr hV hCn hC hCN h2 HN hX2
  have c2 := hk5.cell 2 rfl
  have f2 := hk5.free 2
  refine hK _ _ (by simp [owed, left] <;> (and_intros <;> first | trivial | assumption)) ?_
  clear hK K
  try simp only [List.getElem_toArray, List.getElem_cons_succ, List.getElem_cons_zero, Act.put, List.setIfInBounds_toArray, List.set_cons_zero, List.set_cons_succ]
  iterate 2 (refine planE_pure (v := ?_) rfl (by rfl) (fun w' => ?_) ?_; rotate_left; (focus (simp only [List.getElem_toArray, List.getElem_cons_succ, List.getElem_cons_zero]; go_simp; first | with_reducible rfl | (simp (disch := omega) only [if_pos, if_neg, Result.andThen_ok]; try with_reducible rfl) | skip)); try simp only [List.getElem_toArray, List.getElem_cons_succ, List.getElem_cons_zero, Act.put, List.setIfInBounds_toArray, List.set_cons_zero, List.set_cons_succ])
  refine planE_eff rfl (by rfl) (fun K hK => ?_)
  go_simp
  skip
  refine hK _ _ (by simp [owed, left] <;> (and_intros <;> first | trivial | assumption)) ?_
  clear hK K
  try simp only [List.getElem_toArray, List.getElem_cons_succ, List.getElem_cons_zero, Act.put, List.setIfInBounds_toArray, List.set_cons_zero, List.set_cons_succ]
  refine planE_end ?_
  go_wp2_with fail
  go_ret
  exact HF.out

theorem pair_len {L : List (Int × Int)} : ∀ r ∈ L.map pairCells, r.length = 2 := by
  intro r hr
  obtain ⟨q, _, rfl⟩ := List.mem_map.1 hr
  rfl
theorem pair_one {L : List (Int × Int)} : ∀ r ∈ L.map pairCells, ∀ v ∈ r, v.oneCell' = true := by
  intro r hr v hv
  obtain ⟨q, _, rfl⟩ := List.mem_map.1 hr
  simp [pairCells] at hv
  rcases hv with rfl | rfl <;> rfl
theorem map_eraseIdx {α β : Type} (f : α → β) (L : List α) (k : Nat) : (L.eraseIdx k).map f = (L.map f).take k ++ (L.map f).drop (k + 1) := by
  rw [List.eraseIdx_eq_take_drop_succ, List.map_append, List.map_take, List.map_drop]

set_option maxRecDepth 20000 in
set_option maxHeartbeats 8000000 in
theorem act_heal (k a b : Int) (D : Option Addr) (c : Nat) (d : List UInt8) (h : PI n w g V C room) (r : RI n w g2 V C room N) (hn : n ≤ w.heap.size) (hN : N < 4096) (hr0 : room ≤ 4096) (ha : I64 a) (hb : I64 b) (hD : ∀ w', Below n w w' → RB w' D d) (hd : d.length ≤ 140737488351232) (hk : k = 5) :
    Calls Try.prog 19 #[.pointer (some ⟨g, 0, none⟩), .pointer (some ⟨g2, 0, none⟩), .agg #[.int .i64 k, .int .i64 a, .int .i64 b, .slice D d.length c]] w (BothE n g g2 (actV V C room k a b d) (actC C k a b) room room (N + 1) w) := by
  subst hk
  have hbw := (Below.refl w.heap.size w).alloc (Nat.le_refl _) (.cells #[.int .i64 5, .int .i64 a, .int .i64 b, .slice D d.length c] 35)
  have hX := Blk.new w #[.int .i64 5, .int .i64 a, .int .i64 b, .slice D d.length c] 35
  obtain ⟨xb, hxb⟩ : ∃ xb, xb = w.heap.size := ⟨_, rfl⟩
  rw [← hxb] at hX
  have HXB := Lib.hid hxb
  have hn1 := Nat.le_trans hn hbw.size
  have h1 := h.below hbw
  have r1 := r.below hbw
  have hB1 := hbw.mono hn
  have HD := Lib.hid hD
  have x0 := hX.cell 0 rfl
  have x1 := hX.cell 1 rfl
  have x2 := hX.cell 2 rfl
  have x3 := hX.cell 3 rfl
  clear h r hn hxb hD hbw
  go_enter Try.func19, Try.ntmps19
  go_upto_region 1 with fail
  rw [← HXB.out]
  generalize w.alloc (.cells #[.int .i64 5, .int .i64 a, .int .i64 b, .slice D d.length c] 35) = w1 at *
  go_cut [7] (fun s7 wx => s7 = .bool (okB a b) ∧ w1 = wx)
  case first =>
    cases e1 : endB a
    · have he : okB a b = false := by simp [okB, e1]
      go_wp2_with fail
      refine (refEnd a _).mono ?_
      rintro e w' ⟨rfl, rfl⟩
      rw [e1]
      go_wp2_with fail
      go_meet
      exact ⟨by rw [he], rfl⟩
    · cases e2 : endB b
      · have he : okB a b = false := by simp [okB, e2]
        go_wp2_with fail
        refine (refEnd a _).mono ?_
        rintro e w' ⟨rfl, rfl⟩
        rw [e1]
        go_wp2_with fail
        refine (refEnd b _).mono ?_
        rintro e w' ⟨rfl, rfl⟩
        rw [e2]
        go_wp2_with fail
        go_meet
        exact ⟨by rw [he], rfl⟩
      · have he : okB a b = (a != b) := by simp [okB, e1, e2, bne]; by_cases hab : a = b <;> simp [hab]
        go_wp2_with fail
        refine (refEnd a _).mono ?_
        rintro e w' ⟨rfl, rfl⟩
        rw [e1]
        go_wp2_with fail
        refine (refEnd b _).mono ?_
        rintro e w' ⟨rfl, rfl⟩
        rw [e2]
        go_wp2_with fail
        go_meet
        exact ⟨by rw [he], rfl⟩
  case rest =>
  obtain ⟨rfl, rfl⟩ := hcut
  go_wp2_with fail
  refine (postHealI a b h1 hn1).mono ?_
  rintro e w2 ⟨rfl, hP2, hK2⟩
  have hR2 := r1.tm hK2.tm
  have hX2 := hX.tm hK2.tm (by simp [badP])
  have hB2 := hB1.trans hK2.below
  have hn2 := Nat.le_trans hn1 hK2.tm.size
  clear x0 x1 x2 x3 h1 r1 hX hB1 hK2 hn1
  have x1 := hX2.cell 1 rfl
  have x2 := hX2.cell 2 rfl
  have R0 := Lib.hid hR2
  obtain ⟨R, A, cap, Cs, B, capB, h2, hfr, hV, hCn, hC, hCN⟩ := hR2
  have hcl := h2.fits.2
  cases hok : okB a b
  · have HF : Hid (BothE n g g2 (actV V C room 5 a b d) (actC C 5 a b) room room (N + 1) w (.returned (.bool true)) w2) := Lib.hid (by
      rw [actV_same (by decide) (by decide) (by decide), actC, if_neg (by simp [hok])]
      rw [hok, if_neg (by decide)] at hP2
      exact ⟨rfl, hP2, R0.out.more (Nat.le_succ _), hB2⟩)
    rw [if_neg (by decide)]
    clear hP2 hB2 h2 hfr hV hCn hC hCN R0 hok
    go_wp2_with fail
    go_ret
    exact HF.out
  rw [if_pos rfl]
  rw [hok, if_pos rfl] at hP2
  have HK : Hid (∀ (w' : World), PI n w' g V (setC C (a, b) false) room → RI n w' g2 V (setC C (a, b) false) room (N + 1) → Below n w w' → BothE n g g2 (actV V C room 5 a b d) (actC C 5 a b) room room (N + 1) w (.returned (.bool true)) w') := Lib.hid (fun w' p r b => by
    rw [actV_same (by decide) (by decide) (by decide), actC, if_pos hok]
    exact ⟨rfl, p, r, b⟩)
  have HC := Lib.hid (refCut a b w2 h2)
  clear hok
  go_wp2_with fail
  refine HC.out.mono ?_
  rintro e w' ⟨rfl, ⟨hn, rfl⟩ | ⟨k, hk, rfl⟩⟩
  case inl =>
    have HF := Lib.hid (HK.out _ hP2 ⟨R, A, cap, Cs, B, capB, h2, hfr, hV, hCn, fun x => (by
      unfold setC
      by_cases hx : x = (a, b)
      · subst hx
        simp [hn]
      · rw [if_neg hx]
        exact hC x), Nat.le_succ_of_le hCN⟩ hB2)
    clear hP2 hB2 h2 hfr hV hCn hC hCN R0 HK HC hn
    go_wp2_with fail
    go_ret
    exact HF.out
  case inr =>
  have HKK := Lib.hid hk
  have hkl : k < Cs.length := (List.getElem?_eq_some_iff.1 hk).1
  obtain ⟨bb, rfl⟩ := h2.cuts.head (by simpa using (show 0 < Cs.length by omega))
  have c2 := h2.blk.cell 2 rfl
  have hccap := h2.cuts.cap
  rw [List.length_map] at hccap
  have hb4 : Below w2.heap.size w2 (w2.alloc (.cells #[] 70)) := (Below.refl _ _).alloc (Nat.le_refl _) _
  have h4 := h2.below hb4
  obtain ⟨hb, hhb⟩ : ∃ hb, hb = w2.heap.size := ⟨_, rfl⟩
  have hO4 : OR (w2.alloc (.cells #[] 70)) hb 70 2 (some ⟨w2.heap.size, 0, none⟩) 0 [] := OR.made0 (base := hb) w2 70 2 (by omega)
  have hs4 : hb ≤ (w2.alloc (.cells #[] 70)).heap.size := by simp; omega
  have c2' := h4.blk.cell 2 rfl
  obtain ⟨i0, hi0, hz0, hz1, hz2⟩ := info_parts pair_info
  have hk0 : ¬ (k : Int) < 0 := by omega
  have hk1 : (0 : Int) ≤ (k : Int) := by omega
  have hi1 : k + 1 ≤ Cs.length := hkl
  have hi2 : k + 1 ≤ capB := by omega
  have hic : k ≤ capB := by omega
  clear hk HC R0 x1 x2 hX2
  by_cases hj : k + 1 < capB
  · skip
    go_wp2_with (first
      | (at_builtin; refine wp_appendS _ rfl (.tmp 167) (.tmp 173) 43 70 rfl Try.underlying43 hi0 hz0 hz1 hz2 rfl (by decide) hb _ (some ⟨bb, 0, none⟩) 0 capB [] ((Cs.map pairCells).take k) rfl (by rw [List.length_take, List.length_map, Nat.min_eq_left (by omega)]; rfl) hO4 (h4.cuts.rs.take k) (fun r hr => pair_len r (List.mem_of_mem_take hr)) (fun r hr => pair_one r (List.mem_of_mem_take hr)) (by simp; omega) (by simp; omega) hs4 ?_
         intro ys5 A5 c5 w5 hy5 hy51 hy52 hrow5 hg5 _
         have hb5 : Below w2.heap.size w2 w5 := hb4.grown hg5 hb4.size (fun b hb => by simp at hb; omega)
         have h5 := h2.below hb5
         clear c2 c2'
         have c2 := h5.blk.cell 2 rfl
         simp only [List.length_nil, Nat.zero_add, List.length_take, List.length_map] at hy51 hy52)
      | (at_builtin; refine wp_appendS w5 rfl (.tmp 176) (.tmp 183) 43 70 rfl Try.underlying43 hi0 hz0 hz1 hz2 rfl (by decide) hb A5 (some ⟨bb, (k + 1) * 2, none⟩) c5 (capB - (k + 1)) ys5 ((Cs.map pairCells).drop (k + 1)) rfl (by rw [List.length_drop, List.length_map]; rfl) hrow5 (by have := h5.cuts.rs.drop (k + 1); rwa [Nat.zero_add] at this) (fun r hr => pair_len r (List.mem_of_mem_drop hr)) (fun r hr => pair_one r (List.mem_of_mem_drop hr)) (by simp; omega) (by simp; omega) (Nat.le_trans hs4 hg5.size) ?_
         intro ys6 A6 c6 w6 hy6 hy61 hy62 hrow6 hg6 _
         have hb6 : Below w2.heap.size w2 w6 := hb5.grown hg6 hb5.size (fun b hb => by have := (hrow5.blk_lt b hb).1; omega)
         clear c2
         have h6 := h2.below hb6
         have c2 := h6.blk.cell 2 rfl
         have f2 := h6.blk.free 2
         have hd6 : ys6 = (Cs.eraseIdx k).map pairCells := by
           have e5 := hy5.out
           rw [List.nil_append] at e5
           rw [hy6.out, e5, map_eraseIdx]
         have hrow6' := hrow6.mono (Nat.zero_le _)
         have hyl : ys6.length = (Cs.eraseIdx k).length := by rw [hd6, List.length_map]
         have hel : (Cs.eraseIdx k).length = Cs.length - 1 := by rw [List.length_eraseIdx, if_pos hkl]
         rw [hd6] at hrow6'
         have h7 := h6.setCuts hrow6' (by omega) ys6.length hyl
         have hA6 : ∀ b, A6.map (·.block) = some b → n ≤ b := fun b hb => by have := (hrow6.blk_lt b hb).1; omega
         have htm7 : TM badR w2 (w6.setCell ⟨g2, 2, none⟩ (.slice A6 ys6.length c6)) := (TM.below hb6).setCell (p := ⟨g2, 2, none⟩) (fun o ho => by rw [show w6.heap[g2]? = _ from h6.blk] at ho; injection ho with ho; subst ho; exact .inl rfl) _
         have hB7 := (hB2.trans (hb6.mono hn2)).setCell (p := ⟨g2, 2, none⟩) (by simpa using hfr.1) (.slice A6 ys6.length c6)
         have HF := Lib.hid (HK.out _ (hP2.tm htm7) ⟨R, A, cap, _, A6, c6, h7, ⟨hfr.1, hfr.2.1, hA6, hfr.2.2.2⟩, hV, hCn.sublist (List.eraseIdx_sublist _ _), fun x => (by
           unfold setC
           by_cases hx : x = (a, b)
           · subst hx
             simp [nodup_erase hCn HKK.out]
           · rw [if_neg hx, hC x]
             simp [nodup_erase hCn HKK.out, hx]), (by omega)⟩ hB7)
         clear hy6 hy61 hy62 hrow6 hg6 hb6 h6 hrow6' h7 hA6 htm7 hB7 hd6 hy5 hyl h5 hb5 hrow5 hg5 hel))
    go_ret
    exact HF.out
  · obtain rfl : capB = k + 1 := by omega
    go_wp2_with (first
      | (at_builtin; refine wp_appendS _ rfl (.tmp 167) (.tmp 173) 43 70 rfl Try.underlying43 hi0 hz0 hz1 hz2 rfl (by decide) hb _ (some ⟨bb, 0, none⟩) 0 (k + 1) [] ((Cs.map pairCells).take k) rfl (by rw [List.length_take, List.length_map, Nat.min_eq_left (by omega)]; rfl) hO4 (h4.cuts.rs.take k) (fun r hr => pair_len r (List.mem_of_mem_take hr)) (fun r hr => pair_one r (List.mem_of_mem_take hr)) (by simp; omega) (by simp; omega) hs4 ?_
         intro ys5 A5 c5 w5 hy5 hy51 hy52 hrow5 hg5 _
         have hb5 : Below w2.heap.size w2 w5 := hb4.grown hg5 hb4.size (fun b hb => by simp at hb; omega)
         have h5 := h2.below hb5
         clear c2 c2'
         have c2 := h5.blk.cell 2 rfl
         simp only [List.length_nil, Nat.zero_add, List.length_take, List.length_map] at hy51 hy52)
      | (at_builtin; refine wp_appendS w5 rfl (.tmp 176) (.tmp 183) 43 70 rfl Try.underlying43 hi0 hz0 hz1 hz2 rfl (by decide) hb A5 (some ⟨bb, 0, none⟩) c5 0 ys5 ((Cs.map pairCells).drop (k + 1)) rfl (by rw [List.drop_of_length_le (by rw [List.length_map]; omega)]; rfl) hrow5 (by rw [List.drop_of_length_le (by rw [List.length_map]; omega)]; exact RS.nil) (fun r hr => pair_len r (List.mem_of_mem_drop hr)) (fun r hr => pair_one r (List.mem_of_mem_drop hr)) (by simp; omega) (by simp; omega) (Nat.le_trans hs4 hg5.size) ?_
         intro ys6 A6 c6 w6 hy6 hy61 hy62 hrow6 hg6 _
         have hb6 : Below w2.heap.size w2 w6 := hb5.grown hg6 hb5.size (fun b hb => by have := (hrow5.blk_lt b hb).1; omega)
         clear c2
         have h6 := h2.below hb6
         have c2 := h6.blk.cell 2 rfl
         have f2 := h6.blk.free 2
         have hd6 : ys6 = (Cs.eraseIdx k).map pairCells := by
           have e5 := hy5.out
           rw [List.nil_append] at e5
           rw [hy6.out, e5, map_eraseIdx]
         have hrow6' := hrow6.mono (Nat.zero_le _)
         have hyl : ys6.length = (Cs.eraseIdx k).length := by rw [hd6, List.length_map]
         have hel : (Cs.eraseIdx k).length = Cs.length - 1 := by rw [List.length_eraseIdx, if_pos hkl]
         rw [hd6] at hrow6'
         have h7 := h6.setCuts hrow6' (by omega) ys6.length hyl
         have hA6 : ∀ b, A6.map (·.block) = some b → n ≤ b := fun b hb => by have := (hrow6.blk_lt b hb).1; omega
         have htm7 : TM badR w2 (w6.setCell ⟨g2, 2, none⟩ (.slice A6 ys6.length c6)) := (TM.below hb6).setCell (p := ⟨g2, 2, none⟩) (fun o ho => by rw [show w6.heap[g2]? = _ from h6.blk] at ho; injection ho with ho; subst ho; exact .inl rfl) _
         have hB7 := (hB2.trans (hb6.mono hn2)).setCell (p := ⟨g2, 2, none⟩) (by simpa using hfr.1) (.slice A6 ys6.length c6)
         have HF := Lib.hid (HK.out _ (hP2.tm htm7) ⟨R, A, cap, _, A6, c6, h7, ⟨hfr.1, hfr.2.1, hA6, hfr.2.2.2⟩, hV, hCn.sublist (List.eraseIdx_sublist _ _), fun x => (by
           unfold setC
           by_cases hx : x = (a, b)
           · subst hx
             simp [nodup_erase hCn HKK.out]
           · rw [if_neg hx, hC x]
             simp [nodup_erase hCn HKK.out, hx]), (by omega)⟩ hB7)
         clear hy6 hy61 hy62 hrow6 hg6 hb6 h6 hrow6' h7 hA6 htm7 hB7 hd6 hy5 hyl h5 hb5 hrow5 hg5 hel))
    go_ret
    exact HF.out

set_option maxRecDepth 20000 in
set_option maxHeartbeats 2000000 in
theorem lawAlike (h : PI n w g V C room) (r : RI n w g2 V C room N) (hn : n ≤ w.heap.size) :
    Calls Try.prog 20 #[.pointer (some ⟨g, 0, none⟩), .pointer (some ⟨g2, 0, none⟩)] w fun e w' => e = .returned (.bool true) ∧ Below w.heap.size w w' := by
  have H := Lib.hid h
  have HR := Lib.hid r
  have hlen := r.len
  have HC : Hid (∀ w', Below w.heap.size w w' → ∃ A cap, w'.cell? ⟨g2, 1, none⟩ = some (.slice A V.length cap)) := Lib.hid fun w' hb => by
    obtain ⟨R, A, cap, Cs, B, capB, h1, _, hV, _⟩ := r.below hb
    exact ⟨A, cap, by have := h1.blk.cell 1 rfl; rwa [show R.length = V.length from by rw [← hV, List.length_map]] at this⟩
  clear h r
  go_enter Try.func20, Try.ntmps20
  go_wp2_with fail
  go_loopw [5] (fun i wr => ∃ k : Nat, k ≤ V.length ∧ i = .int .i64 (k : Int) ∧ Below w.heap.size w wr) (fun i _ => V.length - (intOf i).toNat)
  case atStart => exact ⟨0, Nat.zero_le _, rfl, Below.refl _ _⟩
  case round =>
    obtain ⟨k, hk, rfl, hB⟩ := hrel
    obtain ⟨A, cap, c1⟩ := HC.out wr hB
    by_cases hlt : k < V.length
    · have HL := Lib.hid (lawLook_in k (H.out.below hB) (HR.out.below hB) (Nat.le_trans hn hB.size) hlt)
      go_wp2_with fail
      refine HL.out.mono ?_
      rintro e w2 ⟨rfl, hb2⟩
      have hB2 := hB.trans (hb2.mono hB.size)
      clear hB c1 hb2 HL
      go_wp2_with fail
      go_roundw
      case rel => exact ⟨k + 1, by omega, by go_num, hB2⟩
      case measure => simp [intOf]; omega
    · obtain rfl : k = V.length := by omega
      go_wp2_with fail
      clear c1
      refine wp_region_planE_gen (by kernel_rfl) [(0, none), (2, none), (3, none), (4, none), (5, none), (6, none), (1, some [0]), (7, none), (8, none)] (by kernel_rfl) (by kernel_rfl) (by decide) ?_
      intro wq hwq
      have hbq : Below wr.heap.size wr wq := by rw [hwq]; exact (Below.refl _ _).drew
      have hBq := hB.trans (hbq.mono hB.size)
      obtain ⟨A', cap', c1'⟩ := HC.out wq hBq
      clear hwq hbq hB
      iterate 4 (refine planE_pure (v := ?_) rfl (by rfl) (fun w' => ?_) ?_; rotate_left; (focus (simp only [List.getElem_toArray, List.getElem_cons_succ, List.getElem_cons_zero]; go_simp; first | with_reducible rfl | (simp (disch := omega) only [if_pos, if_neg, Result.andThen_ok]; try with_reducible rfl) | skip)); try simp only [List.getElem_toArray, List.getElem_cons_succ, List.getElem_cons_zero, Act.put, List.setIfInBounds_toArray, List.set_cons_zero, List.set_cons_succ])
      refine planE_cells (v := ?_) [(⟨g2, 1, none⟩, .slice A' V.length cap')] (by simp; and_intros <;> assumption) rfl (by rfl) (fun w' hw' => ?_) ?_; rotate_left; (focus (simp only [List.forall_mem_cons, List.not_mem_nil, false_imp_iff, implies_true, and_true] at hw'; simp only [List.getElem_toArray, List.getElem_cons_succ, List.getElem_cons_zero]; go_simp; first | with_reducible rfl | (simp (disch := omega) only [if_pos, if_neg, Result.andThen_ok]; try with_reducible rfl) | skip)); try simp only [List.getElem_toArray, List.getElem_cons_succ, List.getElem_cons_zero, Act.put, List.setIfInBounds_toArray, List.set_cons_zero, List.set_cons_succ]
      iterate 1 (refine planE_pure (v := ?_) rfl (by rfl) (fun w' => ?_) ?_; rotate_left; (focus (simp only [List.getElem_toArray, List.getElem_cons_succ, List.getElem_cons_zero]; go_simp; first | with_reducible rfl | (simp (disch := omega) only [if_pos, if_neg, Result.andThen_ok]; try with_reducible rfl) | skip)); try simp only [List.getElem_toArray, List.getElem_cons_succ, List.getElem_cons_zero, Act.put, List.setIfInBounds_toArray, List.set_cons_zero, List.set_cons_succ])
      refine planE_eff rfl (by rfl) (fun K hK => ?_)
      go_simp
      refine (postLenI (H.out.below hBq)).mono ?_
      rintro e w' ⟨rfl, rfl⟩
      refine hK _ _ (by simp [owed, left] <;> (and_intros <;> first | trivial | assumption)) ?_
      clear hK K
      try simp only [List.getElem_toArray, List.getElem_cons_succ, List.getElem_cons_zero, Act.put, List.setIfInBounds_toArray, List.set_cons_zero, List.set_cons_succ]
      iterate 2 (refine planE_pure (v := ?_) rfl (by rfl) (fun w' => ?_) ?_; rotate_left; (focus (simp only [List.getElem_toArray, List.getElem_cons_succ, List.getElem_cons_zero]; go_simp; first | with_reducible rfl | (simp (disch := omega) only [if_pos, if_neg, Result.andThen_ok]; try with_reducible rfl) | skip)); try simp only [List.getElem_toArray, List.getElem_cons_succ, List.getElem_cons_zero, Act.put, List.setIfInBounds_toArray, List.set_cons_zero, List.set_cons_succ])
      refine planE_end ?_
      go_wp2_with fail
      go_ret
      exact ⟨rfl, hBq⟩

end
end Go.Proofs.Ytihmnkkhccihpaa
