/- Put together of: ReadE, SEnvB. -/
import Derived.Test.YtobdmlejabjmiaaGreatDoorZa11
import Derived.Test.YtobdmlejabjmiaaGreatDoorZa10
import Derived.Test.YtobdmlejabjmiaaGreatDoorZa03
import Derived.Test.YtobdmlejabjmiaaGreatDoorZa09
import Derived.WalkLawsBesides
import Derived.Lib.AtoiErrMem
import Derived.Deep.QuietTactic
import Derived.ProofKit
/- Contract of codec.Unframe. -/
namespace Go.Proofs.YtobdmlejabjmiaaGreatDoor
open Go.RowKit

theorem unfr_out {b : List UInt8} {i : Int} (h : ¬ (0 ≤ i ∧ i ≤ (b.length : Int))) : unfrAt b i = ([], 0, 1) := by rw [unfrAt, if_neg h]
theorem unfr_8 {b : List UInt8} {a : Nat} (h : a ≤ b.length) (h8 : b.length < a + 8) : unfrAt b (a : Int) = ([], 0, 5) := by rw [unfrAt, if_pos (by omega), if_pos (by omega)]
theorem unfr_large {b : List UInt8} {a : Nat} (h8 : a + 8 ≤ b.length) (hn : 65536 < unB ((b.drop a).take 4)) : unfrAt b (a : Int) = ([], 0, 7) := by
  rw [unfrAt, if_pos (by omega), if_neg (by omega), Int.toNat_natCast, if_pos hn]
theorem unfr_short {b : List UInt8} {a : Nat} (h8 : a + 8 ≤ b.length) (hn : ¬ 65536 < unB ((b.drop a).take 4)) (hs : b.length < a + 8 + unB ((b.drop a).take 4)) : unfrAt b (a : Int) = ([], 0, 5) := by
  rw [unfrAt, if_pos (by omega), if_neg (by omega), Int.toNat_natCast, if_neg hn, if_pos (by omega)]
theorem unfr_sum {b : List UInt8} {a : Nat} (h8 : a + 8 ≤ b.length) (hn : ¬ 65536 < unB ((b.drop a).take 4)) (hs : ¬ b.length < a + 8 + unB ((b.drop a).take 4)) (hc : crc ((b.drop a).take 4 ++ (b.drop (a + 8)).take (unB ((b.drop a).take 4))) ≠ unB ((b.drop (a + 4)).take 4)) : unfrAt b (a : Int) = ([], 0, 6) := by
  rw [unfrAt, if_pos (by omega), if_neg (by omega), Int.toNat_natCast, if_neg hn, if_neg (by omega), if_neg hc]
theorem unfr_yes {b : List UInt8} {a : Nat} (h8 : a + 8 ≤ b.length) (hn : ¬ 65536 < unB ((b.drop a).take 4)) (hs : ¬ b.length < a + 8 + unB ((b.drop a).take 4)) (hc : crc ((b.drop a).take 4 ++ (b.drop (a + 8)).take (unB ((b.drop a).take 4))) = unB ((b.drop (a + 4)).take 4)) :
    unfrAt b (a : Int) = ((b.drop (a + 8)).take (unB ((b.drop a).take 4)), (a : Int) + 8 + (unB ((b.drop a).take 4) : Int), 0) := by
  rw [unfrAt, if_pos (by omega), if_neg (by omega), Int.toNat_natCast, if_neg hn, if_neg (by omega), if_pos hc]

theorem belowDrewN {B : Nat} {w w' : World} (h : Below B w w') (n : Nat) : Below B w (w'.drewN n) := ⟨h.os, h.tape, h.output, h.size, h.block⟩
theorem RBB.two_n {w : World} {A B : Option Addr} {l m : List UInt8} (g c d x y : Nat) (hg : g = w.heap.size) (hx : l.length = x) (hy : m.length = y) (h : RB w A l) (k : RB w B m) (hl : x ≤ 140737488355328) (hm : y ≤ 140737488355328) :
    RBB (w.alloc (.cells #[.slice A x c, .slice B y d] 34)) (some ⟨g, 0, none⟩) [(A, c, l), (B, d, m)] := by
  subst hx; subst hy; exact RBB.two_at g c d hg h k hl hm

/-- What Unframe ends in; the data are a row of the call's own. -/
def DatO (L : Nat) (p : List UInt8 × Int × Int) (w : World) (e : Ending) (w' : World) : Prop :=
  ∃ (k : List UInt8) (A : Option Addr) (c : Nat), Hid (k = p.1) ∧ k.length ≤ L ∧ e = .returned (.tuple #[.slice A k.length c, .int .i64 p.2.1, .int .i64 p.2.2]) ∧ OB w' w.heap.size A c k ∧ Below w.heap.size w w'
theorem datO_no {L : Nat} {p : List UInt8 × Int × Int} {er : Int} {w w' : World} (h : p = ([], 0, er)) (hb : Below w.heap.size w w') : DatO L p w (.returned (.tuple #[.slice none 0 0, .int .i64 0, .int .i64 er])) w' := by
  subst h; exact ⟨[], none, 0, Lib.hid rfl, Nat.zero_le _, rfl, OB.nil _ _, hb⟩
theorem datO_yes {L : Nat} {p : List UInt8 × Int × Int} {k : List UInt8} {A : Option Addr} {c : Nat} {x y : Int} {w w' : World} (h : p = (k, x, y)) (hl : k.length ≤ L) (hr : OB w' w.heap.size A c k) (hb : Below w.heap.size w w') : DatO L p w (.returned (.tuple #[.slice A k.length c, .int .i64 x, .int .i64 y])) w' := by
  subst h; exact ⟨k, A, c, Lib.hid rfl, hl, rfl, hr, hb⟩

set_option maxRecDepth 20000 in
set_option maxHeartbeats 4000000 in
theorem codecUnframeO (A : Option Addr) (c : Nat) (b : List UInt8) (i : Int) (w : World) (h : RB w A b) (hc : b.length ≤ c) (hm : c ≤ 9223372036854775807) (hl : b.length ≤ 210000000000000) (hi : -9223372036854775808 ≤ i ∧ i ≤ 9223372036854775807) :
    Calls Tryz.prog 60 #[.slice A b.length c, .int .i64 i] w (DatO b.length (unfrAt b i) w) := by
  obtain ⟨hi0, hi1⟩ := hi
  by_cases hin : 0 ≤ i ∧ i ≤ (b.length : Int)
  · have HI := Lib.hid (show insB b.length i = true from insB_yes hin)
    obtain ⟨a, rfl⟩ := Int.eq_ofNat_of_zero_le hin.1
    have hab : a ≤ b.length := by omega
    clear hin
    by_cases h8 : b.length < a + 8
    · have HP := Lib.hid (unfr_8 hab h8)
      by_cases hac : a < c
      · go_enter Tryz.func60, Tryz.ntmps60
        go_wp2_with fail
        refine (codecInside _ _ _ _ _ (by omega)).mono ?_
        rintro e w' ⟨rfl, rfl⟩
        rw [HI.out]
        go_wp2_with fail
        go_ret3
        exact datO_no HP.out (Below.refl _ _)
      · obtain rfl : a = c := by omega
        go_enter Tryz.func60, Tryz.ntmps60
        go_wp2_with fail
        refine (codecInside _ _ _ _ _ (by omega)).mono ?_
        rintro e w' ⟨rfl, rfl⟩
        rw [HI.out]
        go_wp2_with fail
        go_ret3
        exact datO_no HP.out (Below.refl _ _)
    · have h8' : a + 8 ≤ b.length := by omega
      have hac : a < c := by omega
      obtain ⟨bb, off, rfl, hbb, _⟩ := h.at_ (by omega)
      have hl0 : ((b.drop a).take 4).length = 4 := by rw [List.length_take, List.length_drop]; omega
      have hl4 : ((b.drop (a + 4)).take 4).length = 4 := by rw [List.length_take, List.length_drop]; omega
      have hp0 := h.partR a 4
      have hp4 := h.partR (a + 4) 4
      have hdl : ∀ n, a + 8 + n ≤ b.length → ((b.drop (a + 8)).take n).length = n := fun n hn => by rw [List.length_take, List.length_drop]; omega
      have hpd := fun n => h.partR (a + 8) n
      have HL := Lib.hid (unfr_large h8')
      have HS := Lib.hid (unfr_short h8')
      have HX := Lib.hid (unfr_sum h8')
      have HY := Lib.hid (unfr_yes h8')
      have hn32 : unB ((b.drop a).take 4) < 4294967296 := Nat.lt_of_lt_of_le (unB_lt _) (by rw [hl0]; decide)
      have ht32 : unB ((b.drop (a + 4)).take 4) < 4294967296 := Nat.lt_of_lt_of_le (unB_lt _) (by rw [hl4]; decide)
      have W0 := Lib.hid (fun w' c' (hw : RB w' (some ⟨bb, off + a, none⟩) ((b.drop a).take 4)) => codecWord _ (b.length - a) c' _ w' hw hl0 (by omega) (by omega))
      have W4 := Lib.hid (fun w' c' (hw : RB w' (some ⟨bb, off + a + 4, none⟩) ((b.drop (a + 4)).take 4)) => codecWord _ (b.length - a - 4) c' _ w' hw hl4 (by omega) (by omega))
      rw [← Nat.add_assoc] at hp4
      generalize hq0 : (b.drop a).take 4 = q0 at *
      generalize hq4 : (b.drop (a + 4)).take 4 = q4 at *
      generalize hn : unB q0 = n at *
      generalize unB q4 = t at *
      clear hq0 hq4 hn
      by_cases hbig : 65536 < n
      · have HP := Lib.hid (HL.out hbig)
        have C0 := Lib.hid (fun c' => W0.out w c' hp0)
        clear HL HS HX HY hpd hdl W0 W4 hp0 hp4
        go_enter Tryz.func60, Tryz.ntmps60
        go_wp2_with fail
        refine (codecInside _ _ _ _ _ (by omega)).mono ?_
        rintro e w' ⟨rfl, rfl⟩
        rw [HI.out]
        go_wp2_with fail
        refine (C0.out _).mono ?_
        rintro e w' ⟨rfl, k1, rfl⟩
        have hB := Lib.hid (belowDrewN (Below.refl w.heap.size w) k1)
        go_wp2_with fail
        go_ret3
        exact datO_no HP.out hB.out
      · by_cases hs : b.length < a + 8 + n
        · have HP := Lib.hid (HS.out hbig hs)
          have C0 := Lib.hid (fun c' => W0.out w c' hp0)
          clear HL HS HX HY hpd hdl W0 W4 hp0 hp4
          go_enter Tryz.func60, Tryz.ntmps60
          go_wp2_with fail
          refine (codecInside _ _ _ _ _ (by omega)).mono ?_
          rintro e w' ⟨rfl, rfl⟩
          rw [HI.out]
          go_wp2_with fail
          refine (C0.out _).mono ?_
          rintro e w' ⟨rfl, k1, rfl⟩
          have hB := Lib.hid (belowDrewN (Below.refl w.heap.size w) k1)
          go_wp2_with fail
          go_ret3
          exact datO_no HP.out hB.out
        · have HP := HX.out hbig hs
          have HP1 := HY.out hbig hs
          have hdn := hdl n (by omega)
          have hpn := hpd n
          rw [show off + (a + 8) = off + a + 8 by omega] at hpn
          have hcr := crc_le (q0 ++ (b.drop (a + 8)).take n)
          have HALL : Hid (∀ A1 c1 A2 c2, allB [(A1, c1, q0), (A2, c2, (b.drop (a + 8)).take n)] = q0 ++ (b.drop (a + 8)).take n) := Lib.hid (fun _ _ _ _ => by simp [allB])
          generalize hqd : (b.drop (a + 8)).take n = qd at *
          obtain ⟨s, hsv⟩ : ∃ s, s = crc (q0 ++ qd) := ⟨_, rfl⟩
          rw [← hsv] at HP HP1 hcr
          have HSV := Lib.hid hsv
          clear hsv HL HS HX HY hpd hdl hqd
          have C0 := Lib.hid (fun c' => W0.out w c' hp0)
          by_cases hcap : 8 < c - a
          · skip
            by_cases hst : s = t
            · have HQ := Lib.hid (HP1 hst)
              have hne : ((s : Int) != (t : Int)) = false := by simp [hst]
              clear HP HP1 hst
              go_enter Tryz.func60, Tryz.ntmps60
              go_wp2_with fail
              refine (codecInside _ _ _ _ _ (by omega)).mono ?_
              rintro e w' ⟨rfl, rfl⟩
              rw [HI.out]
              go_wp2_with fail
              refine (C0.out _).mono ?_
              rintro e w' ⟨rfl, k1, rfl⟩
              clear C0
              obtain ⟨w1, hw1⟩ : ∃ w1, w1 = w.drewN k1 := ⟨_, rfl⟩
              rw [← hw1]
              have hB1 : Below w.heap.size w w1 := by rw [hw1]; exact belowDrewN (Below.refl _ _) _
              have hq0 := hp0.below hB1
              have hq4 := hp4.below hB1
              have hqd := hpn.below hB1
              clear hw1
              go_wp2_with fail
              refine wp_region_plan (by kernel_rfl) [(0, true), (1, true), (2, true), (5, true), (6, true), (3, false), (4, false), (7, false), (8, true)] (by kernel_rfl) (by kernel_rfl) (by decide) ?_
              obtain ⟨w2, hw2⟩ : ∃ w2, w2 = w1.drew := ⟨_, rfl⟩
              rw [← hw2]
              have hB2 : Below w1.heap.size w1 w2 := by rw [hw2]; exact (Below.refl _ _).drew
              have hB2' := hB1.trans (hB2.mono hB1.size)
              have hr0 := hq0.below hB2
              have hr4 := hq4.below hB2
              have hrd := hqd.below hB2
              clear hw2 hq0 hq4 hqd hp0 hp4
              iterate 5
                (refine plan_pure (v := ?_) rfl (by rfl) (fun w' hw' => ?_) ?_; rotate_left; (focus (simp only [List.getElem_toArray, List.getElem_cons_succ, List.getElem_cons_zero]; go_simp; first | with_reducible rfl | (simp (disch := omega) only [if_pos, if_neg, Result.andThen_ok]; try with_reducible rfl) | skip)); try simp only [List.getElem_toArray, List.getElem_cons_succ, List.getElem_cons_zero, Act.put, List.setIfInBounds_toArray, List.set_cons_zero, List.set_cons_succ])
              refine plan_call rfl (by rfl) (fun K hK => ?_)
              go_simp
              have hAL : Below w2.heap.size w2 (w2.alloc (.cells #[.slice (some ⟨bb, off + a, none⟩) 4 (c - a), .slice (some ⟨bb, off + a + 8, none⟩) n (c - a - 8)] 34)) := (Below.refl _ _).alloc (Nat.le_refl _) _
              have hRBB := RBB.two_n w2.heap.size (c - a) (c - a - 8) 4 n rfl hl0 hdn hr0 hrd (by omega) (by omega)
              have hr4' := hr4.below hAL
              have hrd' := hrd.below hAL
              have hB3 := hB2'.trans (hAL.mono hB2'.size)
              refine hK _ _ hAL ?_
              clear hK K hr0 hr4 hrd
              try simp only [List.getElem_toArray, List.getElem_cons_succ, List.getElem_cons_zero, Act.put, List.setIfInBounds_toArray, List.set_cons_zero, List.set_cons_succ]
              have CS := codecSum (some ⟨w2.heap.size, 0, none⟩) 2 _ _ hRBB (by simp)
              rw [HALL.out, ← HSV.out] at CS
              generalize (w2.alloc (.cells #[.slice (some ⟨bb, off + a, none⟩) 4 (c - a), .slice (some ⟨bb, off + a + 8, none⟩) n (c - a - 8)] 34)) = w3 at *
              have HCS := Lib.hid CS
              clear CS hRBB hAL
              refine plan_call rfl (by rfl) (fun K hK => ?_)
              go_simp
              refine HCS.out.mono ?_
              rintro e w4 ⟨rfl, hb4⟩
              have hr4 := hr4'.below hb4
              have hrd := hrd'.below hb4
              have hB4 := hB3.trans (hb4.mono hB3.size)
              refine hK _ _ hb4 ?_
              clear hK K hr4' hrd' HCS
              try simp only [List.getElem_toArray, List.getElem_cons_succ, List.getElem_cons_zero, Act.put, List.setIfInBounds_toArray, List.set_cons_zero, List.set_cons_succ]
              refine plan_call rfl (by rfl) (fun K hK => ?_)
              go_simp
              refine (W4.out w4 _ hr4).mono ?_
              rintro e w5 ⟨rfl, k5, rfl⟩
              obtain ⟨w5, hw5⟩ : ∃ w5, w5 = w4.drewN k5 := ⟨_, rfl⟩
              rw [← hw5]
              have hb5 : Below w4.heap.size w4 w5 := by rw [hw5]; exact belowDrewN (Below.refl _ _) _
              have hB5 := hB4.trans (hb5.mono hB4.size)
              have hrd5 := hrd.below hb5
              refine hK _ _ hb5 ?_
              clear hK K hw5
              try simp only [List.getElem_toArray, List.getElem_cons_succ, List.getElem_cons_zero, Act.put, List.setIfInBounds_toArray, List.set_cons_zero, List.set_cons_succ]
              iterate 1
                (refine plan_pure (v := ?_) rfl (by rfl) (fun w' hw' => ?_) ?_; rotate_left; (focus (simp only [List.getElem_toArray, List.getElem_cons_succ, List.getElem_cons_zero]; go_simp; first | with_reducible rfl | (simp (disch := omega) only [if_pos, if_neg, Result.andThen_ok]; try with_reducible rfl) | skip)); try simp only [List.getElem_toArray, List.getElem_cons_succ, List.getElem_cons_zero, Act.put, List.setIfInBounds_toArray, List.set_cons_zero, List.set_cons_succ])
              refine plan_end ?_
              clear hr4 hrd hB4 hB3 hB2' hB2 hB1 hb4 hb5
              go_wp2_with fail
              refine (cloneR' (some ⟨bb, off + a + 8, none⟩) (c - a - 8) n qd hdn w5 hrd5 (by omega)).mono ?_
              rintro e w6 ⟨k, A6, c6, hk, hk1, hk2, rfl, ho6, hb6⟩
              have hB6 := hB5.trans (hb6.mono hB5.size)
              go_wp2_with fail
              go_ret3
              exact datO_yes (k := k) (by rw [HQ.out, hk.out]) (by omega) (ho6.base_le hB5.size) hB6
            · have HQ := Lib.hid (HP (fun e => hst e))
              have hne : ((s : Int) != (t : Int)) = true := by simp; omega
              clear HP HP1 hst
              go_enter Tryz.func60, Tryz.ntmps60
              go_wp2_with fail
              refine (codecInside _ _ _ _ _ (by omega)).mono ?_
              rintro e w' ⟨rfl, rfl⟩
              rw [HI.out]
              go_wp2_with fail
              refine (C0.out _).mono ?_
              rintro e w' ⟨rfl, k1, rfl⟩
              clear C0
              obtain ⟨w1, hw1⟩ : ∃ w1, w1 = w.drewN k1 := ⟨_, rfl⟩
              rw [← hw1]
              have hB1 : Below w.heap.size w w1 := by rw [hw1]; exact belowDrewN (Below.refl _ _) _
              have hq0 := hp0.below hB1
              have hq4 := hp4.below hB1
              have hqd := hpn.below hB1
              clear hw1
              go_wp2_with fail
              refine wp_region_plan (by kernel_rfl) [(0, true), (1, true), (2, true), (5, true), (6, true), (3, false), (4, false), (7, false), (8, true)] (by kernel_rfl) (by kernel_rfl) (by decide) ?_
              obtain ⟨w2, hw2⟩ : ∃ w2, w2 = w1.drew := ⟨_, rfl⟩
              rw [← hw2]
              have hB2 : Below w1.heap.size w1 w2 := by rw [hw2]; exact (Below.refl _ _).drew
              have hB2' := hB1.trans (hB2.mono hB1.size)
              have hr0 := hq0.below hB2
              have hr4 := hq4.below hB2
              have hrd := hqd.below hB2
              clear hw2 hq0 hq4 hqd hp0 hp4
              iterate 5
                (refine plan_pure (v := ?_) rfl (by rfl) (fun w' hw' => ?_) ?_; rotate_left; (focus (simp only [List.getElem_toArray, List.getElem_cons_succ, List.getElem_cons_zero]; go_simp; first | with_reducible rfl | (simp (disch := omega) only [if_pos, if_neg, Result.andThen_ok]; try with_reducible rfl) | skip)); try simp only [List.getElem_toArray, List.getElem_cons_succ, List.getElem_cons_zero, Act.put, List.setIfInBounds_toArray, List.set_cons_zero, List.set_cons_succ])
              refine plan_call rfl (by rfl) (fun K hK => ?_)
              go_simp
              have hAL : Below w2.heap.size w2 (w2.alloc (.cells #[.slice (some ⟨bb, off + a, none⟩) 4 (c - a), .slice (some ⟨bb, off + a + 8, none⟩) n (c - a - 8)] 34)) := (Below.refl _ _).alloc (Nat.le_refl _) _
              have hRBB := RBB.two_n w2.heap.size (c - a) (c - a - 8) 4 n rfl hl0 hdn hr0 hrd (by omega) (by omega)
              have hr4' := hr4.below hAL
              have hrd' := hrd.below hAL
              have hB3 := hB2'.trans (hAL.mono hB2'.size)
              refine hK _ _ hAL ?_
              clear hK K hr0 hr4 hrd
              try simp only [List.getElem_toArray, List.getElem_cons_succ, List.getElem_cons_zero, Act.put, List.setIfInBounds_toArray, List.set_cons_zero, List.set_cons_succ]
              have CS := codecSum (some ⟨w2.heap.size, 0, none⟩) 2 _ _ hRBB (by simp)
              rw [HALL.out, ← HSV.out] at CS
              generalize (w2.alloc (.cells #[.slice (some ⟨bb, off + a, none⟩) 4 (c - a), .slice (some ⟨bb, off + a + 8, none⟩) n (c - a - 8)] 34)) = w3 at *
              have HCS := Lib.hid CS
              clear CS hRBB hAL
              refine plan_call rfl (by rfl) (fun K hK => ?_)
              go_simp
              refine HCS.out.mono ?_
              rintro e w4 ⟨rfl, hb4⟩
              have hr4 := hr4'.below hb4
              have hrd := hrd'.below hb4
              have hB4 := hB3.trans (hb4.mono hB3.size)
              refine hK _ _ hb4 ?_
              clear hK K hr4' hrd' HCS
              try simp only [List.getElem_toArray, List.getElem_cons_succ, List.getElem_cons_zero, Act.put, List.setIfInBounds_toArray, List.set_cons_zero, List.set_cons_succ]
              refine plan_call rfl (by rfl) (fun K hK => ?_)
              go_simp
              refine (W4.out w4 _ hr4).mono ?_
              rintro e w5 ⟨rfl, k5, rfl⟩
              obtain ⟨w5, hw5⟩ : ∃ w5, w5 = w4.drewN k5 := ⟨_, rfl⟩
              rw [← hw5]
              have hb5 : Below w4.heap.size w4 w5 := by rw [hw5]; exact belowDrewN (Below.refl _ _) _
              have hB5 := hB4.trans (hb5.mono hB4.size)
              have hrd5 := hrd.below hb5
              refine hK _ _ hb5 ?_
              clear hK K hw5
              try simp only [List.getElem_toArray, List.getElem_cons_succ, List.getElem_cons_zero, Act.put, List.setIfInBounds_toArray, List.set_cons_zero, List.set_cons_succ]
              iterate 1
                (refine plan_pure (v := ?_) rfl (by rfl) (fun w' hw' => ?_) ?_; rotate_left; (focus (simp only [List.getElem_toArray, List.getElem_cons_succ, List.getElem_cons_zero]; go_simp; first | with_reducible rfl | (simp (disch := omega) only [if_pos, if_neg, Result.andThen_ok]; try with_reducible rfl) | skip)); try simp only [List.getElem_toArray, List.getElem_cons_succ, List.getElem_cons_zero, Act.put, List.setIfInBounds_toArray, List.set_cons_zero, List.set_cons_succ])
              refine plan_end ?_
              clear hr4 hrd hB4 hB3 hB2' hB2 hB1 hb4 hb5
              go_wp2_with fail
              go_ret3
              exact datO_no HQ.out hB5
          · have h80 : c - a = 8 := by omega
            have hn0 : n = 0 := by omega
            subst hn0
            have HQD := Lib.hid (List.eq_nil_of_length_eq_zero hdn)
            by_cases hst : s = t
            · have HQ := Lib.hid (HP1 hst)
              have hne : ((s : Int) != (t : Int)) = false := by simp [hst]
              clear HP HP1 hst
              go_enter Tryz.func60, Tryz.ntmps60
              go_wp2_with fail
              refine (codecInside _ _ _ _ _ (by omega)).mono ?_
              rintro e w' ⟨rfl, rfl⟩
              rw [HI.out]
              go_wp2_with fail
              refine (C0.out _).mono ?_
              rintro e w' ⟨rfl, k1, rfl⟩
              clear C0
              obtain ⟨w1, hw1⟩ : ∃ w1, w1 = w.drewN k1 := ⟨_, rfl⟩
              rw [← hw1]
              have hB1 : Below w.heap.size w w1 := by rw [hw1]; exact belowDrewN (Below.refl _ _) _
              have hq0 := hp0.below hB1
              have hq4 := hp4.below hB1
              have hqd := hpn.below hB1
              clear hw1
              go_wp2_with fail
              refine wp_region_plan (by kernel_rfl) [(0, true), (1, true), (2, true), (5, true), (6, true), (3, false), (4, false), (7, false), (8, true)] (by kernel_rfl) (by kernel_rfl) (by decide) ?_
              obtain ⟨w2, hw2⟩ : ∃ w2, w2 = w1.drew := ⟨_, rfl⟩
              rw [← hw2]
              have hB2 : Below w1.heap.size w1 w2 := by rw [hw2]; exact (Below.refl _ _).drew
              have hB2' := hB1.trans (hB2.mono hB1.size)
              have hr0 := hq0.below hB2
              have hr4 := hq4.below hB2
              have hrd := hqd.below hB2
              clear hw2 hq0 hq4 hqd hp0 hp4
              iterate 5
                (refine plan_pure (v := ?_) rfl (by rfl) (fun w' hw' => ?_) ?_; rotate_left; (focus (simp only [List.getElem_toArray, List.getElem_cons_succ, List.getElem_cons_zero]; go_simp; first | with_reducible rfl | (simp (disch := omega) only [if_pos, if_neg, Result.andThen_ok]; try with_reducible rfl) | skip)); try simp only [List.getElem_toArray, List.getElem_cons_succ, List.getElem_cons_zero, Act.put, List.setIfInBounds_toArray, List.set_cons_zero, List.set_cons_succ])
              refine plan_call rfl (by rfl) (fun K hK => ?_)
              go_simp
              have hAL : Below w2.heap.size w2 (w2.alloc (.cells #[.slice (some ⟨bb, off + a, none⟩) 4 8, .slice (some ⟨bb, off + a, none⟩) 0 0] 34)) := (Below.refl _ _).alloc (Nat.le_refl _) _
              have hRBB := RBB.two_n w2.heap.size 8 0 4 0 rfl hl0 hdn hr0 (show RB w2 (some ⟨bb, off + a, none⟩) qd by rw [HQD.out]; exact RB.nil) (by omega) (by omega)
              have hr4' := hr4.below hAL
              have hrd' := hrd.below hAL
              have hB3 := hB2'.trans (hAL.mono hB2'.size)
              refine hK _ _ hAL ?_
              clear hK K hr0 hr4 hrd
              try simp only [List.getElem_toArray, List.getElem_cons_succ, List.getElem_cons_zero, Act.put, List.setIfInBounds_toArray, List.set_cons_zero, List.set_cons_succ]
              have CS := codecSum (some ⟨w2.heap.size, 0, none⟩) 2 _ _ hRBB (by simp)
              rw [HALL.out, ← HSV.out] at CS
              generalize (w2.alloc (.cells #[.slice (some ⟨bb, off + a, none⟩) 4 8, .slice (some ⟨bb, off + a, none⟩) 0 0] 34)) = w3 at *
              have HCS := Lib.hid CS
              clear CS hRBB hAL
              refine plan_call rfl (by rfl) (fun K hK => ?_)
              go_simp
              refine HCS.out.mono ?_
              rintro e w4 ⟨rfl, hb4⟩
              have hr4 := hr4'.below hb4
              have hrd := hrd'.below hb4
              have hB4 := hB3.trans (hb4.mono hB3.size)
              refine hK _ _ hb4 ?_
              clear hK K hr4' hrd' HCS
              try simp only [List.getElem_toArray, List.getElem_cons_succ, List.getElem_cons_zero, Act.put, List.setIfInBounds_toArray, List.set_cons_zero, List.set_cons_succ]
              refine plan_call rfl (by rfl) (fun K hK => ?_)
              go_simp
              refine (W4.out w4 _ hr4).mono ?_
              rintro e w5 ⟨rfl, k5, rfl⟩
              obtain ⟨w5, hw5⟩ : ∃ w5, w5 = w4.drewN k5 := ⟨_, rfl⟩
              rw [← hw5]
              have hb5 : Below w4.heap.size w4 w5 := by rw [hw5]; exact belowDrewN (Below.refl _ _) _
              have hB5 := hB4.trans (hb5.mono hB4.size)
              have hrd5 := hrd.below hb5
              refine hK _ _ hb5 ?_
              clear hK K hw5
              try simp only [List.getElem_toArray, List.getElem_cons_succ, List.getElem_cons_zero, Act.put, List.setIfInBounds_toArray, List.set_cons_zero, List.set_cons_succ]
              iterate 1
                (refine plan_pure (v := ?_) rfl (by rfl) (fun w' hw' => ?_) ?_; rotate_left; (focus (simp only [List.getElem_toArray, List.getElem_cons_succ, List.getElem_cons_zero]; go_simp; first | with_reducible rfl | (simp (disch := omega) only [if_pos, if_neg, Result.andThen_ok]; try with_reducible rfl) | skip)); try simp only [List.getElem_toArray, List.getElem_cons_succ, List.getElem_cons_zero, Act.put, List.setIfInBounds_toArray, List.set_cons_zero, List.set_cons_succ])
              refine plan_end ?_
              clear hr4 hrd hB4 hB3 hB2' hB2 hB1 hb4 hb5
              go_wp2_with fail
              refine (cloneR' (some ⟨bb, off + a, none⟩) 0 0 qd hdn w5 (by rw [HQD.out]; exact RB.nil) (by omega)).mono ?_
              rintro e w6 ⟨k, A6, c6, hk, hk1, hk2, rfl, ho6, hb6⟩
              have hB6 := hB5.trans (hb6.mono hB5.size)
              go_wp2_with fail
              go_ret3
              exact datO_yes (k := k) (by rw [HQ.out, hk.out]; simp) (by omega) (ho6.base_le hB5.size) hB6
            · have HQ := Lib.hid (HP (fun e => hst e))
              have hne : ((s : Int) != (t : Int)) = true := by simp; omega
              clear HP HP1 hst
              go_enter Tryz.func60, Tryz.ntmps60
              go_wp2_with fail
              refine (codecInside _ _ _ _ _ (by omega)).mono ?_
              rintro e w' ⟨rfl, rfl⟩
              rw [HI.out]
              go_wp2_with fail
              refine (C0.out _).mono ?_
              rintro e w' ⟨rfl, k1, rfl⟩
              clear C0
              obtain ⟨w1, hw1⟩ : ∃ w1, w1 = w.drewN k1 := ⟨_, rfl⟩
              rw [← hw1]
              have hB1 : Below w.heap.size w w1 := by rw [hw1]; exact belowDrewN (Below.refl _ _) _
              have hq0 := hp0.below hB1
              have hq4 := hp4.below hB1
              have hqd := hpn.below hB1
              clear hw1
              go_wp2_with fail
              refine wp_region_plan (by kernel_rfl) [(0, true), (1, true), (2, true), (5, true), (6, true), (3, false), (4, false), (7, false), (8, true)] (by kernel_rfl) (by kernel_rfl) (by decide) ?_
              obtain ⟨w2, hw2⟩ : ∃ w2, w2 = w1.drew := ⟨_, rfl⟩
              rw [← hw2]
              have hB2 : Below w1.heap.size w1 w2 := by rw [hw2]; exact (Below.refl _ _).drew
              have hB2' := hB1.trans (hB2.mono hB1.size)
              have hr0 := hq0.below hB2
              have hr4 := hq4.below hB2
              have hrd := hqd.below hB2
              clear hw2 hq0 hq4 hqd hp0 hp4
              iterate 5
                (refine plan_pure (v := ?_) rfl (by rfl) (fun w' hw' => ?_) ?_; rotate_left; (focus (simp only [List.getElem_toArray, List.getElem_cons_succ, List.getElem_cons_zero]; go_simp; first | with_reducible rfl | (simp (disch := omega) only [if_pos, if_neg, Result.andThen_ok]; try with_reducible rfl) | skip)); try simp only [List.getElem_toArray, List.getElem_cons_succ, List.getElem_cons_zero, Act.put, List.setIfInBounds_toArray, List.set_cons_zero, List.set_cons_succ])
              refine plan_call rfl (by rfl) (fun K hK => ?_)
              go_simp
              have hAL : Below w2.heap.size w2 (w2.alloc (.cells #[.slice (some ⟨bb, off + a, none⟩) 4 8, .slice (some ⟨bb, off + a, none⟩) 0 0] 34)) := (Below.refl _ _).alloc (Nat.le_refl _) _
              have hRBB := RBB.two_n w2.heap.size 8 0 4 0 rfl hl0 hdn hr0 (show RB w2 (some ⟨bb, off + a, none⟩) qd by rw [HQD.out]; exact RB.nil) (by omega) (by omega)
              have hr4' := hr4.below hAL
              have hrd' := hrd.below hAL
              have hB3 := hB2'.trans (hAL.mono hB2'.size)
              refine hK _ _ hAL ?_
              clear hK K hr0 hr4 hrd
              try simp only [List.getElem_toArray, List.getElem_cons_succ, List.getElem_cons_zero, Act.put, List.setIfInBounds_toArray, List.set_cons_zero, List.set_cons_succ]
              have CS := codecSum (some ⟨w2.heap.size, 0, none⟩) 2 _ _ hRBB (by simp)
              rw [HALL.out, ← HSV.out] at CS
              generalize (w2.alloc (.cells #[.slice (some ⟨bb, off + a, none⟩) 4 8, .slice (some ⟨bb, off + a, none⟩) 0 0] 34)) = w3 at *
              have HCS := Lib.hid CS
              clear CS hRBB hAL
              refine plan_call rfl (by rfl) (fun K hK => ?_)
              go_simp
              refine HCS.out.mono ?_
              rintro e w4 ⟨rfl, hb4⟩
              have hr4 := hr4'.below hb4
              have hrd := hrd'.below hb4
              have hB4 := hB3.trans (hb4.mono hB3.size)
              refine hK _ _ hb4 ?_
              clear hK K hr4' hrd' HCS
              try simp only [List.getElem_toArray, List.getElem_cons_succ, List.getElem_cons_zero, Act.put, List.setIfInBounds_toArray, List.set_cons_zero, List.set_cons_succ]
              refine plan_call rfl (by rfl) (fun K hK => ?_)
              go_simp
              refine (W4.out w4 _ hr4).mono ?_
              rintro e w5 ⟨rfl, k5, rfl⟩
              obtain ⟨w5, hw5⟩ : ∃ w5, w5 = w4.drewN k5 := ⟨_, rfl⟩
              rw [← hw5]
              have hb5 : Below w4.heap.size w4 w5 := by rw [hw5]; exact belowDrewN (Below.refl _ _) _
              have hB5 := hB4.trans (hb5.mono hB4.size)
              have hrd5 := hrd.below hb5
              refine hK _ _ hb5 ?_
              clear hK K hw5
              try simp only [List.getElem_toArray, List.getElem_cons_succ, List.getElem_cons_zero, Act.put, List.setIfInBounds_toArray, List.set_cons_zero, List.set_cons_succ]
              iterate 1
                (refine plan_pure (v := ?_) rfl (by rfl) (fun w' hw' => ?_) ?_; rotate_left; (focus (simp only [List.getElem_toArray, List.getElem_cons_succ, List.getElem_cons_zero]; go_simp; first | with_reducible rfl | (simp (disch := omega) only [if_pos, if_neg, Result.andThen_ok]; try with_reducible rfl) | skip)); try simp only [List.getElem_toArray, List.getElem_cons_succ, List.getElem_cons_zero, Act.put, List.setIfInBounds_toArray, List.set_cons_zero, List.set_cons_succ])
              refine plan_end ?_
              clear hr4 hrd hB4 hB3 hB2' hB2 hB1 hb4 hb5
              go_wp2_with fail
              go_ret3
              exact datO_no HQ.out hB5
  · have HI := Lib.hid (show insB b.length i = false from insB_no hin)
    have HP := Lib.hid (unfr_out hin)
    clear hin
    go_enter Tryz.func60, Tryz.ntmps60
    go_wp2_with fail
    refine (codecInside _ _ _ _ _ (by omega)).mono ?_
    rintro e w' ⟨rfl, rfl⟩
    rw [HI.out]
    go_wp2_with fail
    go_ret3
    exact datO_no HP.out (Below.refl _ _)
end Go.Proofs.YtobdmlejabjmiaaGreatDoor


/- SEnvB: put together by merge.py of: SEnvA, SEnvL. -/
/- What the program's variables hold, for files' names; strconv.ParseUint. -/
namespace Go.Proofs.YtobdmlejabjmiaaGreatDoor
open Go.RowKit
open Go.Lib (parseUintB decDigits hasPrefix trimPrefix)

/-- What the program's variables hold. -/
structure SEnv (B : Nat) (w : World) : Prop where
  pow : ∀ w', Below B w w' → Pow w'
  syn : ∃ tp p, ∀ w', Below B w w' → w'.var? Tryz.prog "strconv.ErrSyntax" = some #[.iface tp p]
  rng : ∃ tp p, ∀ w', Below B w w' → w'.var? Tryz.prog "strconv.ErrRange" = some #[.iface tp p]
theorem SEnv.below {B : Nat} {w w' : World} (h : SEnv B w) (hb : Below B w w') : SEnv B w' := by
  obtain ⟨h1, ⟨a, b, h2⟩, ⟨c, d, h3⟩⟩ := h
  exact ⟨fun v hv => h1 v (hb.trans hv), ⟨a, b, fun v hv => h2 v (hb.trans hv)⟩, ⟨c, d, fun v hv => h3 v (hb.trans hv)⟩⟩
theorem SEnv.up {B B' : Nat} {w : World} (h : SEnv B w) (hB : B ≤ B') : SEnv B' w := by
  obtain ⟨h1, ⟨a, b, h2⟩, ⟨c, d, h3⟩⟩ := h
  exact ⟨fun v hv => h1 v (hv.mono hB), ⟨a, b, fun v hv => h2 v (hv.mono hB)⟩, ⟨c, d, fun v hv => h3 v (hv.mono hB)⟩⟩
theorem parseS (s : List UInt8) (B : Nat) (w : World) (hs : s.length ≤ 140737488351232) (hE : SEnv B w) :
    Calls Tryz.prog 122 #[.string ⟨s.toArray⟩, .int .i64 10, .int .i64 64] w fun e w' => Below w.heap.size w w' ∧
      ((∃ u, parseUintB 64 s = .ok u ∧ e = .returned (.tuple #[.int .u64 (u : Int), .nilIface])) ∨ ((∀ u, parseUintB 64 s ≠ .ok u) ∧ ∃ (n : Int) (N : Nat), e = .returned (.tuple #[.int .u64 n, .iface 268 (.pointer (some ⟨N, 0, none⟩))]))) := by
  have hsz : (⟨s.toArray⟩ : ByteArray).size = s.length := by simp [ByteArray.size]
  obtain ⟨_, ⟨a, b, h2⟩, ⟨c, d, h3⟩⟩ := hE
  cases hp : parseUintB 64 s
  · rename_i u
    refine (Tryz.strconv_ParseUint_10_at64_ok ⟨s.toArray⟩ (by rw [hsz]; omega) u hp w).mono ?_
    rintro e w' ⟨rfl, rfl | rfl⟩
    · exact ⟨Below.refl _ _, .inl ⟨u, rfl, rfl⟩⟩
    · exact ⟨Lib.bytesWorld_below _ _ _, .inl ⟨u, rfl, rfl⟩⟩
  · have C : Calls Tryz.prog 122 #[.string ⟨s.toArray⟩, .int .i64 10, .int .i64 64] w fun e w' => ∃ N, e = .returned (.tuple #[.int .u64 0, .iface 268 (.pointer (some ⟨N, 0, none⟩))]) ∧ w.heap.size ≤ N ∧ w'.heap[N]? = some (.cells #[.string ⟨#[80, 97, 114, 115, 101, 85, 105, 110, 116]⟩, .string ⟨s.toArray⟩, .iface a b] 297 (0, 0)) ∧ Below w.heap.size w w' := Any.strconv_ParseUint_10_at64_syntax_var Tryz.laysPu14 ⟨s.toArray⟩ (by rw [hsz]; omega) hp a b w (h2 w (Below.refl _ _))
    refine C.mono ?_
    rintro e w' ⟨N, rfl, _, _, hb⟩
    exact ⟨hb, .inr ⟨(fun u h => by cases h), _, N, rfl⟩⟩
  · refine (Tryz.strconv_ParseUint_10_at64_range_var ⟨s.toArray⟩ (by rw [hsz]; omega) hp c d w (h3 w (Below.refl _ _))).mono ?_
    rintro e w' ⟨N, rfl, _, _, hb⟩
    exact ⟨hb, .inr ⟨(fun u h => by cases h), _, N, rfl⟩⟩
end Go.Proofs.YtobdmlejabjmiaaGreatDoor
/- What the listed variables hold, for files' names; a law's claim with the world's shape at hand. -/
namespace Go.Proofs.YtobdmlejabjmiaaGreatDoor
open Go.RowKit

theorem iface_of_trod {H : Type} {enc : TypeId × Value → H} {P : Program} {w : World} {base : Nat} {sp : Nat → Bool} {held : Bool} {fuel : Nat} {t : TypeId} {ms : Array (String × TypeId)} {cs : List Value} {nm : String} {d : DataW H} {p : List MemPlace}
    (hi : P.underlying t = some (.interface ms)) (h : DataW.trod enc P w base sp held fuel t cs = some (.iface nm d, p)) : ∃ tp v, cs = [.iface tp v] := by
  cases fuel with
  | zero => simp [DataW.trod] at h
  | succ fuel =>
    simp only [DataW.trod, hi] at h
    split at h <;> first | exact ⟨_, _, rfl⟩ | (exfalso; simp_all; done) | skip
theorem iface_of_laid {P : Program} {w : World} {l : List (String × DataW Unit)} {n : String} {nm : String} {d : DataW Unit} {g : Nat} {t : TypeId} {ms : Array (String × TypeId)} (h : laidMet P l w) (hm : (n, (.iface nm d : DataW Unit)) ∈ l)
    (hg : P.globalNamed n = some g) (hty : (P.globals[g]?).map (·.type) = some t) (ht : P.underlying t = some (.interface ms)) : ∃ tp v, w.var? P n = some #[.iface tp v] := by
  obtain ⟨ps, hl, _⟩ := h
  obtain ⟨g', t', cs, fuel, p, h1, h2, h3, h4⟩ := laid_get hl hm
  obtain rfl := Option.some.inj (hg.symm.trans h1)
  obtain rfl := Option.some.inj (hty.symm.trans h2)
  obtain ⟨tp, v, e⟩ := iface_of_trod ht h4
  refine ⟨tp, v, ?_⟩
  rw [h3]
  congr 1
  exact Array.toList_inj.1 e
theorem senv_of {l : List (String × DataW Unit)} {w : World} (h : laidMetH Tryz.prog l w) (hp : (l.all fun x => x.2.handleName?.isNone) = true)
    (h1 : ("internal/strconv.uint64pow10", Rows.laid_internal_strconv_uint64pow10) ∈ l) (h3 : ("strconv.ErrSyntax", Rows.laid_strconv_ErrSyntax) ∈ l) (h4 : ("strconv.ErrRange", Rows.laid_strconv_ErrRange) ∈ l) : SEnv w.heap.size w := by
  rw [MakeChecks.laidMetH_plain _ _ _ hp] at h
  have t1 := tab_of_laid (g := 4) (t := 300) (e := 23) (m := 20) (zs := Lib.pow10Tab) (k := .u64) h h1 (by kernel_rfl) (by kernel_rfl) (by kernel_rfl) (by kernel_rfl) (by kernel_rfl) (by kernel_rfl)
  obtain ⟨a, b, hs⟩ := iface_of_laid (g := 2) (t := 193) h h3 (by kernel_rfl) (by kernel_rfl) Tryz.underlying193
  obtain ⟨c, d, hr⟩ := iface_of_laid (g := 3) (t := 193) h h4 (by kernel_rfl) (by kernel_rfl) Tryz.underlying193
  exact ⟨fun w' hb => var_below t1 hb, ⟨a, b, fun w' hb => var_below hs hb⟩, ⟨c, d, fun w' hb => var_below hr hb⟩⟩

theorem returns_shaped {H : Type} {enc : TypeId × Value → H} {a : Assume} {C : Checked} {os : Os} {f : FuncId} {fn : Func} {s : ChangeSpec} {conds : List PathCond} {apart fresh handsOn again : Bool} {X : World → Array Value → Prop}
    (hX : ∀ (w w' : World) (args : Array Value), w.heap = w'.heap → X w args → X w' args)
    (own : ownKnob C.prog.godebug = none) (started : os.Started) (noInit : C.prog.inits.idxOf? f = none) (hfn : C.prog.funcs[f]? = some fn)
    (witness : ∃ (w : World) (tape : Tape) (i : Input), w.os = os ∧ (w.forCall tape i).Shaped C.prog ∧ i.vars = [] ∧ Input.okWide C.prog (w.forCall tape i) .any w.heap.size f i ∧
      ((s.pre enc C.prog fn conds apart (w.forCall tape i).memory i.args ∧ X (w.forCall tape i).memory i.args) ∧ sizedMet enc C.prog fn (OpenSpec.ofChange s) apart (w.forCall tape i).memory i.args) ∧ a.holds C.prog (lone (Frame.enter C.prog f i.args .normal) [] (w.forCall tape i)))
    (contract : ∀ (W : World) (base : Nat) (args : Array Value) (ds gs : List (DataW H)) (before : List MemPlace),
      (∀ (j : Nat) t v, fn.params[j]? = some t → args[j]? = some v → Value.okWide C.prog W .any base t v) →
      DataW.Whole enc C.prog fn.params.toList s.vars apart W args.toList ds gs before →
      conds.all (PathCond.test C.prog ⟨fn.params.toList, ds, s.plain.varTypes C.prog, gs⟩) = true →
      (DataW.weightsEach C.prog (fn.params.toList ++ s.plain.varTypes C.prog) (ds ++ gs)).all (· ≤ reachBytes) = true → X W args → W.ShapedOpen C.prog →
      Calls C.prog f args W fun e W' => ∃ v, e = .returned v ∧ s.post enc C.prog fn apart fresh handsOn again W args v W') :
    ReturnsInHanded a C os f .any (fun w args => (s.pre enc C.prog fn conds apart w args ∧ X w args) ∧ sizedMet enc C.prog fn (OpenSpec.ofChange s) apart w args) (s.post enc C.prog fn apart fresh handsOn again) := by
  refine returnsInHanded_of_calls own started noInit witness ?_
  intro w tape i _ hsh _ hok hpre _
  obtain ⟨_, _, _, fn', hfn', _, _, _, _, hval⟩ := hok
  have e : fn' = fn := Option.some.inj (hfn'.symm.trans hfn)
  subst e
  obtain ⟨⟨⟨ds, gs, before, hw, hc⟩, hx⟩, hz⟩ := hpre
  have hw' := DataW.Whole.of_heap (w' := w.forCall tape i) (by rfl) hw
  refine (contract (w.forCall tape i) w.heap.size i.args ds gs before hval hw' hc (hz.weights hw) (hX _ _ _ (by rfl) hx) hsh).mono fun e W' ⟨v, he, hp⟩ => ?_
  subst he
  exact ChangeSpec.post_blind hp
end Go.Proofs.YtobdmlejabjmiaaGreatDoor

