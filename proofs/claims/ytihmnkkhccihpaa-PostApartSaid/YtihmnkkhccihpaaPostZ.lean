/- The walk of the law PostApart. -/
import Derived.Test.YtihmnkkhccihpaaPostS
import Derived.Test.YtihmnkkhccihpaaPostY
import Derived.Deep.CutBlock
namespace Go.Proofs.Ytihmnkkhccihpaa
open Go.RowKit

set_option maxRecDepth 100000 in
set_option maxHeartbeats 16000000 in
theorem walkPostApart (X : Option Addr) (cx : Nat) (L : List (List Fv)) (Y : Option Addr) (cy : Nat) (M : List (List Fv)) (D0 : Option Addr) (c0 : Nat) (d0 : List UInt8) (w : World)
    (hX : RS w X 4 (L.map (·.map Fv.val))) (hL : L.length ≤ 9223372036854775807) (hR : ∀ r ∈ L, rowOk w actK r) (hY : RS w Y 4 (M.map (·.map Fv.val))) (hM : M.length ≤ 9223372036854775807) (hRM : ∀ r ∈ M, rowOk w actK r) (hD0 : RB w D0 d0) (hd0 : d0.length ≤ 140737488351232) :
    Calls Try.prog 7 #[.slice X L.length cx, .slice Y M.length cy, .slice D0 d0.length c0] w (Yes w) := by
  have S := Lib.hid postAnswers
  have HX := Lib.hid hX
  have HR := Lib.hid hR
  have HY := Lib.hid hY
  have HRM := Lib.hid hRM
  have HD0 := Lib.hid hD0
  have N := Lib.hid (fun w => postNewI (w := w) 50 (by omega) (by omega))
  clear hX hR hY hRM hD0
  go_enter Try.func7, Try.ntmps7
  go_wp2_with fail
  refine (N.out _).mono ?_
  rintro e w1 ⟨g, rfl, hP1, hb1⟩
  obtain ⟨g2, hg2⟩ : ∃ g2, g2 = w1.heap.size := ⟨_, rfl⟩
  have hal : Below w1.heap.size w1 (w1.alloc (.cells #[.int .i64 50, .slice none 0 0, .slice none 0 0] 45)) := (Below.refl _ _).alloc (Nat.le_refl _) _
  have hR1 := refNew (n := w.heap.size) w1 50 hb1.size
  have hP2 := hP1.below hal
  have hB2 := hb1.trans (hal.mono hb1.size)
  rw [← hg2] at hR1
  have HG := Lib.hid hg2
  clear hP1 hb1 hal hg2
  go_upto_block 0 with fail
  rw [← HG.out]
  generalize w1.alloc (.cells #[.int .i64 50, .slice none 0 0, .slice none 0 0] 45) = w2 at *
  clear HG
  go_cut [10] (fun s10 wx => ∃ (V : List Val) (C : Int × Int → Bool), PI w.heap.size wx g V C 50 ∧ RI w.heap.size wx g2 V C 50 100 ∧ Below w.heap.size w wx)
  case first =>
    go_wp2_with fail
    go_loopw [10] (fun i wr => ∃ (k : Nat) (V : List Val) (C : Int × Int → Bool), k ≤ L.length ∧ k ≤ 100 ∧ i = .int .i64 (k : Int) ∧ PI w.heap.size wr g V C 50 ∧ RI w.heap.size wr g2 V C 50 k ∧ Below w.heap.size w wr)
      (fun i _ => L.length - (intOf i).toNat)
    case atStart => exact ⟨0, [], _, Nat.zero_le _, Nat.zero_le _, rfl, hP2, hR1, hB2⟩
    case round =>
      obtain ⟨k, V, C, hk, hk2, rfl, hP, hR, hB⟩ := hrel
      clear hP2 hR1 hB2
      by_cases hlt : k < L.length
      · by_cases hlt2 : k < 100
        · obtain ⟨b, off, rfl, _, _⟩ := (HX.out.below hB).row (i := k) (by simpa using hlt)
          obtain ⟨ak, aa, ab, D, c, d, hrow, hik, hia, hib, hD, hdc, hc9, hd⟩ := act_row (HR.out L[k] (List.getElem_mem hlt))
          obtain ⟨x0, x1, x2, x3⟩ : wr.cell? ⟨b, off + k * 4, none⟩ = some (.int .i64 ak) ∧ wr.cell? ⟨b, off + k * 4 + 1, none⟩ = some (.int .i64 aa) ∧ wr.cell? ⟨b, off + k * 4 + 2, none⟩ = some (.int .i64 ab) ∧ wr.cell? ⟨b, off + k * 4 + 3, none⟩ = some (.slice D d.length c) :=
            act_cells (X := none) (HX.out.below hB) (by rw [List.getElem?_eq_getElem hlt, hrow])
          have HA := Lib.hid (lawAct ak aa ab D c d hP hR hB.size (by omega) (by omega) hia hib (fun w'' hw'' => hD.below (hB.trans hw'')) hd)
          clear hD hrow hik hia hib hd hdc hc9 hP hR
          go_wp2_with fail
          refine HA.out.mono ?_
          rintro e w4 ⟨rfl, hP4, hR4, hB4'⟩
          have hB4 := hB.trans hB4'
          clear hB hB4' x0 x1 x2 x3 HA
          go_wp2_with fail
          go_roundw
          case rel => exact ⟨k + 1, _, _, by omega, by omega, by go_num, hP4, hR4, hB4⟩
          case measure => simp [intOf]; omega
        · have h2 : ¬ (k : Int) < 100 := by omega
          have HF := Lib.hid (show PI w.heap.size wr g V C 50 ∧ RI w.heap.size wr g2 V C 50 100 ∧ Below w.heap.size w wr from ⟨hP, hR.more hk2, hB⟩)
          clear hP hR hB
          go_wp2_with fail
          go_meet
          exact ⟨V, C, HF.out⟩
      · have HF := Lib.hid (show PI w.heap.size wr g V C 50 ∧ RI w.heap.size wr g2 V C 50 100 ∧ Below w.heap.size w wr from ⟨hP, hR.more hk2, hB⟩)
        clear hP hR hB
        go_wp2_with fail
        go_meet
        exact ⟨V, C, HF.out⟩
  case rest =>
    obtain ⟨V, C, hP, hR, hB⟩ := hcut
    clear hP2 hR1 hB2
    obtain ⟨wa, rfl⟩ : ∃ wa : World, wa = wc := ⟨_, rfl⟩
    go_wp2_with fail
    refine (postCopyI hP hB.size).mono ?_
    rintro e w4 ⟨g', rfl, hQ4, hb4⟩
    obtain ⟨gx, hgx⟩ : ∃ gx, gx = w4.heap.size := ⟨_, rfl⟩
    have hal : Below w4.heap.size w4 (w4.alloc (.cells #[.int .i64 50, .slice none 0 0, .slice none 0 0] 45)) := (Below.refl _ _).alloc (Nat.le_refl _) _
    have hX4 := refNew (n := wa.heap.size) w4 50 hb4.size
    have hQ5 := hQ4.below hal
    have hB5 := hb4.trans (hal.mono hb4.size)
    rw [← hgx] at hX4
    have HG := Lib.hid hgx
    clear hQ4 hb4 hal hgx
    go_upto_block 2 with fail
    rw [← HG.out]
    generalize w4.alloc (.cells #[.int .i64 50, .slice none 0 0, .slice none 0 0] 45) = w5 at *
    clear HG
    go_cut [13] (fun s13 wx => Below wa.heap.size wa wx)
    case first =>
      go_wp2_with fail
      go_loopw [13] (fun i wr => ∃ (k : Nat) (V : List Val) (C : Int × Int → Bool) (V2 : List Val) (C2 : Int × Int → Bool), k ≤ M.length ∧ k ≤ 100 ∧ i = .int .i64 (k : Int) ∧ PI wa.heap.size wr g' V C 50 ∧ RI wa.heap.size wr gx V2 C2 50 k ∧ Below wa.heap.size wa wr)
        (fun i _ => M.length - (intOf i).toNat)
      case atStart => exact ⟨0, V, C, [], _, Nat.zero_le _, Nat.zero_le _, rfl, hQ5, hX4, hB5⟩
      case round =>
        obtain ⟨k, V', C', V2, C2, hk, hk2, rfl, hP', hR', hB'⟩ := hrel
        clear hQ5 hX4 hB5
        by_cases hlt : k < M.length
        · by_cases hlt2 : k < 100
          · obtain ⟨b, off, rfl, _, _⟩ := (HY.out.below (hB.trans (hB'.mono hB.size))).row (i := k) (by simpa using hlt)
            obtain ⟨ak, aa, ab, D, c, d, hrow, hik, hia, hib, hD, hdc, hc9, hd⟩ := act_row (HRM.out M[k] (List.getElem_mem hlt))
            obtain ⟨x0, x1, x2, x3⟩ : wr.cell? ⟨b, off + k * 4, none⟩ = some (.int .i64 ak) ∧ wr.cell? ⟨b, off + k * 4 + 1, none⟩ = some (.int .i64 aa) ∧ wr.cell? ⟨b, off + k * 4 + 2, none⟩ = some (.int .i64 ab) ∧ wr.cell? ⟨b, off + k * 4 + 3, none⟩ = some (.slice D d.length c) :=
              act_cells (X := none) (HY.out.below (hB.trans (hB'.mono hB.size))) (by rw [List.getElem?_eq_getElem hlt, hrow])
            have HA := Lib.hid (lawActG ak aa ab D c d hP' hR' hB'.size (by omega) (by omega) hia hib (fun w'' hw'' => hD.below ((hB.trans (hB'.mono hB.size)).trans (hw''.mono hB.size))) hd)
            clear hD hrow hik hia hib hd hdc hc9 hP' hR'
            go_wp2_with fail
            refine HA.out.mono ?_
            rintro e w6 ⟨r, V6, C6, V7, C7, rfl, hP6, hR6, hB6'⟩
            have hB6 := hB'.trans hB6'
            clear hB' hB6' x0 x1 x2 x3 HA
            go_wp2_with fail
            go_roundw
            case rel => exact ⟨k + 1, _, _, _, _, by omega, by omega, by go_num, hP6, hR6, hB6⟩
            case measure => simp [intOf]; omega
          · have h2 : ¬ (k : Int) < 100 := by omega
            go_wp2_with fail
            go_meet
            exact hB'
        · go_wp2_with fail
          go_meet
          exact hB'
    case rest =>
      clear hQ5 hX4 hB5
      have hP6 := hP.below hcut
      have hR6 := hR.below hcut
      have hB6 := hB.trans (hcut.mono hB.size)
      clear hP hR hB hcut
      go_wp2_with fail
      refine (S.out _).mono ?_
      rintro e w7 ⟨rfl, hb7⟩
      have hP7 := hP6.below hb7
      have hR7 := hR6.below hb7
      have hB7 := hB6.trans (hb7.mono hB6.size)
      clear hP6 hR6 hB6 hb7
      go_wp2_with fail
      refine (lawAlike hP7 hR7 hB7.size).mono ?_
      rintro e w8 ⟨rfl, hb8⟩
      have hP8 := hP7.below hb8
      have hB8 := hB7.trans (hb8.mono hB7.size)
      clear hP7 hR7 hB7 hb8
      have hD8 := HD0.out.below hB8
      go_wp2_with (at_builtin; refine wp_appendB _ rfl (.tmp 100) (.tmp 101) rfl w8.heap.size _ _ _ _ [] d0 rfl rfl (OB.made0 _ (Nat.le_refl _)) (hD8.alloc _) (by simp; omega) (by simp) ?_; intro k9 A9 c9 w9 hk9 hk91 hk92 ho9 hg9)
      obtain rfl : k9 = d0 := by simpa using hk9.out
      have hb9 : Below w8.heap.size w8 w9 := ((Below.refl _ _).alloc (Nat.le_refl _) _).grown hg9 (by simp) (by simp [Value.ownBlock])
      have hS9 := hP8.pis.below (fun i hi => hi.2) hb9
      have hB9 := hB8.trans (hb9.mono hB8.size)
      have s8 := hb9.size
      have hn8 := hB8.size
      have HBLK := Lib.hid (fun b (hb : A9.map (·.block) = some b) => (ho9.blk_lt b hb).2)
      clear hk9 hk91 hk92 hg9 hP8 hb9 hB8 hD8
      refine (postHealS 1 2 hS9 (by decide)).mono ?_
      rintro e w10 ⟨rfl, hS10, hM10, hT10⟩
      have ho10 := ho9.tm hT10 (by simp [badP])
      have hB10 : Below w.heap.size w w10 := hM10.old hB9 hB9.size (fun i _ hi => hi.1)
      have s10 := hM10.size
      clear hS9 hM10 hT10 hB9 ho9
      have SD := Lib.hid (postSendS 1 2 A9 c9 k9 hS10 ho10.rb)
      go_wp2_with fail
      refine SD.out.mono ?_
      rintro e w11 ⟨rfl, hS11, hM11, hT11⟩
      have ho11 := ho10.tm hT11 (by simp [badP])
      have hB11 : Below w.heap.size w w11 := hM11.old hB10 hB10.size (fun i _ hi => hi.1)
      have s11 := hM11.size
      clear hS10 hM11 hT11 hB10 ho10 SD
      by_cases he : sendErr V (setC C (1, 2) false) 50 1 2 k9 = 0
      · rw [sendV, if_pos he] at hS11
        rw [he]
        have hl9 : k9.length ≤ 65536 := by
          unfold sendErr at he
          by_cases h5 : 65536 < k9.length
          · rw [if_neg (by decide), if_pos h5] at he; omega
          · omega
        have hVl : V.length ≤ 4096 := by
          have := (hS11.pi (n := w.heap.size) (fun i hi => by rcases hi with hi | hi; exact hi.1; omega)).len
          simp at this; omega
        clear he
        go_wp2_with fail
        go_loopw [15] (fun i wr => ∃ (j : Nat) (l : List UInt8), j ≤ k9.length ∧ i = .int .i64 (j : Int) ∧ Hid (l.length = k9.length) ∧ OB wr w8.heap.size A9 c9 l ∧ w11.grownBy wr (A9.map (·.block))) (fun i _ => k9.length - (intOf i).toNat)
        case atStart => exact ⟨0, k9, Nat.zero_le _, rfl, Lib.hid rfl, ho11, World.grownBy.refl _ _⟩
        case round =>
          obtain ⟨j, l, hj, rfl, hl, ho, hg⟩ := hrel
          by_cases hlt : j < k9.length
          · obtain ⟨gi, e', _, _, hcell, hfree, hset⟩ := ho.store (show j < l.length by rw [hl.out]; exact hlt)
            subst e'
            obtain ⟨ho2, hg2⟩ := hset 99 99 (by decide)
            have HO := Lib.hid ho2
            have HG := Lib.hid (gb_trans hg hg2)
            clear hset ho2 hg2 ho hg hS11 hB11 ho11
            go_wp2_with fail
            go_roundw
            case rel => exact ⟨j + 1, _, by omega, by go_num, Lib.hid (by rw [List.length_set, hl.out]), HO.out, HG.out⟩
            case measure => simp [intOf]; omega
          · have hgi : ∀ b, A9.map (·.block) = some b → w8.heap.size ≤ b ∧ b < w9.heap.size := fun b hb => ⟨(ho11.blk_lt b hb).1, HBLK.out b hb⟩
            have hP12 : PI w.heap.size wr g (V ++ [(1, 2, k9)]) (setC C (1, 2) false) 50 := (hS11.lt.of_blocks (w' := wr) (fun i hi => hg.block i hi.2 (fun e => by
              have := hgi i e.symm
              rcases hi.1 with hi | hi <;> omega))).pi (fun i hi => by rcases hi.1 with hi | hi; exact hi.1; omega)
            have hB12 : Below w.heap.size w wr := hB11.grown hg hB11.size (fun b hb => by have := hgi b hb; omega)
            clear ho hg hl hS11 hB11 ho11 hgi
            obtain ⟨wb, rfl⟩ : ∃ wb : World, wb = wr := ⟨_, rfl⟩
            have HLEN := Lib.hid (fun w' (hp : PI w.heap.size w' g (V ++ [(1, 2, k9)]) (setC C (1, 2) false) 50) => postLenI hp)
            have hat : atV (V ++ [(1, 2, k9)]) (V.length : Int) = ((1, 2, k9), 0) := by
              rw [atV, if_pos (by simp; omega), Int.toNat_natCast]
              simp [List.getD_eq_getElem?_getD]
            have HLOOK := Lib.hid (fun w' (hp : PI w.heap.size w' g (V ++ [(1, 2, k9)]) (setC C (1, 2) false) 50) => postLookI (V.length : Int) hp (by omega))
            rw [hat] at HLOOK
            rw [List.length_append, List.length_singleton] at HLEN
            clear hat
            go_wp2_with fail
            refine (HLEN.out _ hP12).mono ?_
            rintro e w' ⟨rfl, rfl⟩
            go_wp2_with fail
            refine (HLOOK.out _ hP12).mono ?_
            rintro e w13 ⟨D2, c2, d2, rfl, hd2, hd2l, ho13, hb13⟩
            obtain rfl : d2 = k9 := hd2.out
            have hP13 := hP12.below hb13
            have HS13 := Lib.hid (hP12.pis.below (fun i hi => hi.2) hb13)
            have hB13 := hB12.trans (hb13.mono hB12.size)
            have hn12 := hB12.size
            have hn13 := hb13.size
            have hcv1 : (convert 33 9 (.slice D2 d2.length c2)).run Try.prog w13 = .ok (.string ⟨d2.toArray⟩) w13 := convB c2 ho13.rb
            have hcv2 : (convert 33 9 (.slice D0 d2.length c0)).run Try.prog w13 = .ok (.string ⟨d2.toArray⟩) w13 := convB c0 (HD0.out.below hB13)
            clear hP12 hB12 hb13 hd2
            go_wp2_with fail
            clear hcv1 hcv2
            go_loopw [21] (fun i wx => ∃ (m : Nat) (l : List UInt8), m ≤ d2.length ∧ i = .int .i64 (m : Int) ∧ Hid (l.length = d2.length) ∧ OB wx wb.heap.size D2 c2 l ∧ w13.grownBy wx (D2.map (·.block))) (fun i _ => d2.length - (intOf i).toNat)
            case atStart => exact ⟨0, d2, Nat.zero_le _, rfl, Lib.hid rfl, ho13, World.grownBy.refl _ _⟩
            case round =>
              obtain ⟨m, l, hm, rfl, hl, ho, hg⟩ := hrel
              by_cases hlt2 : m < d2.length
              · obtain ⟨gi, e', _, _, hcell, hfree, hset⟩ := ho.store (show m < l.length by rw [hl.out]; exact hlt2)
                subst e'
                obtain ⟨ho2, hg2⟩ := hset 98 98 (by decide)
                have HO := Lib.hid ho2
                have HG := Lib.hid (gb_trans hg hg2)
                clear hset ho2 hg2 ho hg hP13 hB13 ho13
                go_wp2_with fail
                go_roundw
                case rel => exact ⟨m + 1, _, by omega, by go_num, Lib.hid (by rw [List.length_set, hl.out]), HO.out, HG.out⟩
                case measure => simp [intOf]; omega
              · have hP14 : PI w.heap.size wr g (V ++ [(1, 2, d2)]) (setC C (1, 2) false) 50 := (HS13.out.of_blocks (w' := wr) (fun i hi => hg.block i (Nat.lt_of_lt_of_le hi.2 hn13) (fun e => by have := (ho13.blk_lt i e.symm).1; omega))).pi (fun i hi => hi.1)
                have hB14 : Below w.heap.size w wr := hB13.grown hg hB13.size (fun b hb => by have := (ho13.blk_lt b hb).1; omega)
                clear ho hg hl hP13 hB13 ho13
                go_wp2_with fail
                refine (HLEN.out _ hP14).mono ?_
                rintro e w' ⟨rfl, rfl⟩
                go_wp2_with fail
                refine (HLOOK.out _ hP14).mono ?_
                rintro e w15 ⟨D3, c3, d3, rfl, hd3, hd3l, ho15, hb15⟩
                obtain rfl : d3 = d2 := hd3.out
                have hBF := hB14.trans (hb15.mono hB14.size)
                have hcv1 : (convert 33 9 (.slice D3 d3.length c3)).run Try.prog w15 = .ok (.string ⟨d3.toArray⟩) w15 := convB c3 ho15.rb
                have hcv2 : (convert 33 9 (.slice D0 d3.length c0)).run Try.prog w15 = .ok (.string ⟨d3.toArray⟩) w15 := convB c0 (HD0.out.below hBF)
                clear hP14 hB14 hb15 hd3 ho15
                go_wp2_with fail
                refine (postTake_nil 0 _).mono ?_
                rintro e q1 ⟨rfl, hq1⟩
                have hz1 := hBF.trans (hq1.mono hBF.size)
                clear hq1
                go_wp2_with fail
                refine (postLook_nil 0 _).mono ?_
                rintro e q2 ⟨Dn, cn, dn, rfl, hdn, _, _, hq2⟩
                have hz2 := hz1.trans (hq2.mono hz1.size)
                clear hz1 hq2 hdn
                go_wp2_with fail
                refine (postSend_nil 1 2 none 0 0 _).mono ?_
                rintro e q3 ⟨rfl, hq3⟩
                have hz3 := hz2.trans (hq3.mono hz2.size)
                clear hz2 hq3
                go_wp2_with fail
                refine (postTwin_nil 0 _).mono ?_
                rintro e q4 ⟨rfl, hq4⟩
                have hz4 := hz3.trans (hq4.mono hz3.size)
                clear hz3 hq4
                go_wp2_with fail
                refine (postCut_nil 1 2 _).mono ?_
                rintro e q5 ⟨rfl, hq5⟩
                have hz5 := hz4.trans (hq5.mono hz4.size)
                clear hz4 hq5
                go_wp2_with fail
                refine (postHeal_nil 1 2 _).mono ?_
                rintro e q6 ⟨rfl, hq6⟩
                have hz6 := hz5.trans (hq6.mono hz5.size)
                clear hz5 hq6
                go_wp2_with fail
                refine (postLen_nil _).mono ?_
                rintro e q7 ⟨rfl, rfl⟩
                go_wp2_with fail
                refine (postCopy_nil _).mono ?_
                rintro e q8 ⟨rfl, rfl⟩
                go_wp2_with fail
                go_ret
                exact ⟨rfl, hz6⟩
      · have he' : (sendErr V (setC C (1, 2) false) 50 1 2 k9 == 0) = false := by simpa using he
        clear hS11 ho11 he
        generalize sendErr V (setC C (1, 2) false) 50 1 2 k9 = er at *
        go_wp2_with fail
        refine (postTake_nil 0 _).mono ?_
        rintro e q1 ⟨rfl, hq1⟩
        have hz1 := hB11.trans (hq1.mono hB11.size)
        clear hq1
        go_wp2_with fail
        refine (postLook_nil 0 _).mono ?_
        rintro e q2 ⟨Dn, cn, dn, rfl, hdn, _, _, hq2⟩
        have hz2 := hz1.trans (hq2.mono hz1.size)
        clear hz1 hq2 hdn
        go_wp2_with fail
        refine (postSend_nil 1 2 none 0 0 _).mono ?_
        rintro e q3 ⟨rfl, hq3⟩
        have hz3 := hz2.trans (hq3.mono hz2.size)
        clear hz2 hq3
        go_wp2_with fail
        refine (postTwin_nil 0 _).mono ?_
        rintro e q4 ⟨rfl, hq4⟩
        have hz4 := hz3.trans (hq4.mono hz3.size)
        clear hz3 hq4
        go_wp2_with fail
        refine (postCut_nil 1 2 _).mono ?_
        rintro e q5 ⟨rfl, hq5⟩
        have hz5 := hz4.trans (hq5.mono hz4.size)
        clear hz4 hq5
        go_wp2_with fail
        refine (postHeal_nil 1 2 _).mono ?_
        rintro e q6 ⟨rfl, hq6⟩
        have hz6 := hz5.trans (hq6.mono hz5.size)
        clear hz5 hq6
        go_wp2_with fail
        refine (postLen_nil _).mono ?_
        rintro e q7 ⟨rfl, rfl⟩
        go_wp2_with fail
        refine (postCopy_nil _).mono ?_
        rintro e q8 ⟨rfl, rfl⟩
        go_wp2_with fail
        go_ret
        exact ⟨rfl, hz6⟩
end Go.Proofs.Ytihmnkkhccihpaa
