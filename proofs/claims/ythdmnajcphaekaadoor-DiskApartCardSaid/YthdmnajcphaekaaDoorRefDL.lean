/- Contract of the reference's disk: Fall. -/
import Derived.Test.YthdmnajcphaekaaDoorRefDK
namespace Go.Proofs.YthdmnajcphaekaaDoor
open Go.RowKit

theorem cutW_ok {torn : Int} {u : Wr} (h : u.ok) : (cutW torn u).ok := by
  unfold cutW
  split
  · refine ⟨h.1, ?_⟩
    have := h.2
    simp only [List.length_take]
    omega
  · exact h
theorem keepCut_ok {mask : Nat} {last torn : Int} {us : List Wr} {k : Nat} (h : ∀ u ∈ us, u.ok) : ∀ u ∈ keepCut mask last torn k us, u.ok := fun u hu => by
  obtain ⟨v, hv, e⟩ := keepCut_mem hu
  rcases e with rfl | rfl
  · exact h _ hv
  · exact cutW_ok (h _ hv)
theorem wr_eta (u : Wr) : u = ⟨u.kind, u.name, u.off, u.data⟩ := rfl
section
variable {M S : Nat → Prop} {w : World} {g : Nat} {A B : Option Addr} {c cu : Nat} {L : List FRow} {U : List (Wr × Option Addr × Nat)} {D : DSt}
set_option maxRecDepth 20000 in
set_option maxHeartbeats 4000000 in
theorem refFall (mask : Nat) (torn : Int) (h : RR M S w g A c L B cu U D) (hcnt : D.cnt ≤ 1000000) (hm : mask < 18446744073709551616) (ht : -9223372036854775808 ≤ torn ∧ torn ≤ 9223372036854775807) :
    Calls Tryd.prog 45 #[.pointer (some ⟨g, 0, none⟩), .int .u64 (mask : Int), .int .i64 torn] w (RDone M S w g (fallD D mask torn) (.tuple #[])) := by
  have H := Lib.hid h
  have c1 := h.blk.cell 1 rfl
  have hul : U.length ≤ 1000000 := by have := h.lens.2; unfold DSt.cnt at hcnt; omega
  clear h
  go_enter Tryd.func45, Tryd.ntmps45
  go_wp2_with fail
  go_loop [6, 7] (fun s6 s7 => ∃ k : Nat, k ≤ U.length ∧ s7 = .int .i64 (k : Int) ∧ s6 = .int .i64 (lastPut mask 0 ((U.map Prod.fst).take k))) (fun _ s7 => U.length - (intOf s7).toNat)
  case atStart => exact ⟨0, Nat.zero_le _, rfl, rfl⟩
  case round =>
    obtain ⟨k, hk, rfl, rfl⟩ := hrel
    by_cases hlt : k < U.length
    · obtain ⟨b, hBe, hbl, hcs⟩ := H.out.uns.cells hlt
      subst hBe
      obtain ⟨d0, _, _, _⟩ := hcs w rfl
      have hsn : lastPut mask 0 ((U.map Prod.fst).take (k + 1)) = if bitAt mask k = true ∧ isPut U[k].1 = true then (k : Int) else lastPut mask 0 ((U.map Prod.fst).take k) := by
        rw [List.take_succ_eq_append_getElem (by simpa using hlt), lastPut_snoc]
        simp [Nat.min_eq_left hk]
      have hsn' : isPut U[k].1 = (U[k].1.kind == 1) := rfl
      rw [hsn'] at hsn
      have HSN := Lib.hid hsn
      clear hsn hsn' hcs
      generalize U[k].1.kind = kk at *
      have hlt1 : k + 1 ≤ U.length := hlt
      cases hbit : bitAt mask k
      · have hbz := bit_zero hbit
        have HN : Hid (lastPut mask 0 ((U.map Prod.fst).take (k + 1)) = lastPut mask 0 ((U.map Prod.fst).take k)) := Lib.hid (by rw [HSN.out, if_neg (by rw [hbit]; simp)])
        clear HSN hbit
        go_wp2_with fail
        go_round
        case rel => exact ⟨k + 1, hlt1, by go_num, by rw [HN.out]⟩
        case measure => simp [intOf]; omega
      · have hbz := bit_one hbit
        by_cases hk1 : kk = 1
        · subst hk1
          have HN : Hid (lastPut mask 0 ((U.map Prod.fst).take (k + 1)) = (k : Int)) := Lib.hid (by rw [HSN.out, if_pos ⟨hbit, rfl⟩])
          clear HSN hbit
          go_wp2_with fail
          go_round
          case rel => exact ⟨k + 1, hlt1, by go_num, by rw [HN.out]⟩
          case measure => simp [intOf]; omega
        · have hk2 : (kk == 1) = false := by simpa using hk1
          have HN : Hid (lastPut mask 0 ((U.map Prod.fst).take (k + 1)) = lastPut mask 0 ((U.map Prod.fst).take k)) := Lib.hid (by rw [HSN.out, if_neg (by rw [hk2]; simp)])
          clear HSN hbit hk1
          go_wp2_with fail
          go_round
          case rel => exact ⟨k + 1, hlt1, by go_num, by rw [HN.out]⟩
          case measure => simp [intOf]; omega
    · obtain rfl : k = U.length := by omega
      obtain ⟨last, hlast⟩ : ∃ last, last = lastPut mask 0 (U.map Prod.fst) := ⟨_, rfl⟩
      rw [List.take_of_length_le (by simp)]
      rw [← hlast]
      have HLAST := Lib.hid hlast
      have hls : -1 ≤ last ∧ last ≤ 1000000 := by
        have h1 := lastPut_ge mask (U.map Prod.fst) 0
        have h2 := lastPut_lt mask (U.map Prod.fst) 0
        rw [List.length_map] at h2
        omega
      clear hlast
      have c0 := H.out.blk.cell 0 rfl
      have HOWN := Lib.hid (refOwn' A c L w H.out.sure.rd (by have := H.out.lens.1; unfold DSt.cnt at hcnt; omega) (fun p hp => by have := H.out.small p hp; omega))
      rw [H.out.vs] at HOWN
      have hll : L.length + U.length ≤ 1000000 := by have h1 := H.out.lens.1; have h2 := H.out.lens.2; unfold DSt.cnt at hcnt; omega
      go_wp2_with fail
      refine HOWN.out.mono ?_
      rintro e w2 ⟨A2, c2, L2, rfl, hv2, hO2, hb2⟩
      have HO2 := Lib.hid hO2
      have hL2 : L2.length ≤ L.length := by
        have e1 := congrArg List.length hv2.out
        rw [List.length_map] at e1
        have := H.out.lens.1
        omega
      clear HOWN c0 c1 hO2
      go_wp2_with fail
      go_loopw [8, 9] (fun s8 s9 wr => ∃ (k : Nat) (A' : Option Addr) (c' : Nat) (L' : List FRow), k ≤ U.length ∧ s9 = .int .i64 (k : Int) ∧ s8 = .slice A' L'.length c' ∧ L'.length ≤ L.length + k ∧ Hid (L'.map FRow.val = (keepCut mask last torn 0 ((U.map Prod.fst).take k)).foldl doF D.sure) ∧ Hid (FO w.heap.size wr A' c' L') ∧ Below w.heap.size w wr) (fun _ s9 _ => U.length - (intOf s9).toNat)
      case atStart => exact ⟨0, A2, c2, L2, Nat.zero_le _, rfl, rfl, by omega, hv2, HO2, hb2⟩
      case round =>
        obtain ⟨k, A', c', L', hk, rfl, rfl, hl', hv, HO, hB⟩ := hrel
        clear HO2 hb2 hL2
        have c1 := (H.out.blk.kept hB).cell 1 rfl
        by_cases hlt : k < U.length
        · obtain ⟨b, hBe, hbl, hcs⟩ := H.out.uns.cells hlt
          subst hBe
          obtain ⟨d0, d1, d2, d3⟩ := hcs wr (hB.block b hbl)
          have hsn : keepCut mask last torn 0 ((U.map Prod.fst).take (k + 1)) = keepCut mask last torn 0 ((U.map Prod.fst).take k) ++ if bitAt mask k = true then [if (k : Int) = last then cutW torn U[k].1 else U[k].1] else [] := by
            rw [List.take_succ_eq_append_getElem (by simpa using hlt), keepCut_snoc]
            simp [Nat.min_eq_left hk]
          have HSN := Lib.hid hsn
          have hok : U[k].1.ok := H.out.ok.2.2.2 _ (by rw [← H.out.vu]; exact List.mem_map.2 ⟨U[k], List.getElem_mem hlt, rfl⟩)
          have HRB := Lib.hid ((H.out.uns.rb _ (List.getElem_mem hlt)).below hB)
          have hri : Rising (L'.map FRow.val) := by rw [hv.out]; exact rising_foldl H.out.ris
          have HDO : Hid (∀ (w3 : World) (d : List UInt8), Below wr.heap.size wr w3 → RB w3 U[k].2.1 d → d.length ≤ U[k].1.data.length →
              Calls Tryd.prog 35 #[.slice A' L'.length c', .agg #[.int .i64 U[k].1.kind, .string ⟨U[k].1.name.toArray⟩, .int .i64 (U[k].1.off : Int), .slice U[k].2.1 d.length U[k].2.2]] w3 (NewF w3 (doF (L'.map FRow.val) ⟨U[k].1.kind, U[k].1.name, U[k].1.off, d⟩))) := Lib.hid fun w3 d hb3 hr3 hd3 => by
            refine refDo A' c' L' w3 ⟨U[k].1.kind, U[k].1.name, U[k].1.off, d⟩ U[k].2.1 U[k].2.2 (HO.out.below hb3).rd hr3 hri (by omega) ?_ (by have := hok.2; simp only; omega) (by have := hok.2; simp only; omega) hok.1
            exact newF_small (w := wr) hv.out (foldl_small H.out.ok.2.2.1 (keepCut_ok (fun v hv => H.out.ok.2.2.2 v (by rw [← H.out.vu]; exact List.mem_of_mem_take hv)))) (by rw [← hv.out]; exact hri)
          have hcut : cutW torn U[k].1 = if 0 ≤ torn ∧ torn < (U[k].1.data.length : Int) then ⟨U[k].1.kind, U[k].1.name, U[k].1.off, U[k].1.data.take torn.toNat⟩ else U[k].1 := rfl
          have heta : U[k].1 = ⟨U[k].1.kind, U[k].1.name, U[k].1.off, U[k].1.data⟩ := rfl
          rw [hcut, heta] at HSN
          have HCAP := Lib.hid (H.out.uns.cap _ (List.getElem_mem hlt))
          have hkdl : U[k].1.data.length ≤ 4194304 := by have := hok.2; omega
          generalize U[k].1.kind = kk at *
          generalize U[k].1.name = kn at *
          generalize U[k].1.off = ko at *
          generalize U[k].1.data = kd at *
          generalize U[k].2.1 = kA at *
          generalize U[k].2.2 = kc at *
          have hlt1 : k + 1 ≤ U.length := hlt
          have hzero := Blk.new wr #[.int .i64 0, .string ⟨#[]⟩, .int .i64 0, .slice none 0 0] 73
          have HZ := Lib.hid hzero
          obtain ⟨hls1, hls2⟩ := hls
          obtain ⟨hba, hxa⟩ := below_row wr #[.int .i64 0, .string ⟨#[]⟩, .int .i64 0, .slice none 0 0] #[.int .i64 kk, .string ⟨kn.toArray⟩, .int .i64 (ko : Int), .slice kA kd.length kc] 73
          have HBA := Lib.hid hba
          have HXA := Lib.hid hxa
          have HOA := Lib.hid (HO.out.below hba)
          have HBW := Lib.hid (hB.trans (hba.mono hB.size))
          have HRA := Lib.hid (HRB.out.below hba)
          have HKL := Lib.hid (doF_len (L'.map FRow.val))
          clear hok hri hcut heta hcs hsn hzero hba hxa
          cases hbit : bitAt mask k
          · have hbz := bit_zero hbit
            have HN : Hid (L'.map FRow.val = (keepCut mask last torn 0 ((U.map Prod.fst).take (k + 1))).foldl doF D.sure) := Lib.hid (by rw [HSN.out, if_neg (by rw [hbit]; simp), List.append_nil]; exact hv.out)
            clear HSN hbit
            go_wp2_with (refine wpList_store_row rfl 73 (.tmp 10) (.tmp 59) rfl wr.heap.size #[.int .i64 kk, .string ⟨kn.toArray⟩, .int .i64 (ko : Int), .slice kA kd.length kc] rfl rfl _ _ HZ.out write_size rfl (by simp [Value.oneCell']) ?_)
            go_roundw
            case rel => exact ⟨k + 1, A', c', L', hlt1, by go_num, rfl, by omega, HN, HOA, HBW.out⟩
            case measure => simp [intOf]; omega
          · have hbz := bit_one hbit
            rw [if_pos hbit] at HSN
            clear hbit
            by_cases hkl : (k : Int) = last
            · have hklb : ((k : Int) == last) = true := by simpa using hkl
              rw [if_pos hkl] at HSN
              clear hkl
              by_cases ht0 : 0 ≤ torn
              · by_cases ht1 : torn < (kd.length : Int)
                · rw [if_pos ⟨ht0, ht1⟩] at HSN
                  have HN := HSN
                  clear HSN
                  obtain ⟨tn, rfl⟩ : ∃ tn : Nat, torn = (tn : Int) := ⟨torn.toNat, by omega⟩
                  rw [show ((tn : Int)).toNat = tn from by omega] at HN
                  obtain ⟨kb, ko2, rfl, _, _⟩ := HRA.out.at_ (by omega)
                  have htc : tn ≤ kc := by have := HCAP.out; omega
                  have htk : tn ≤ kd.length := by omega
                  have HTL : Hid ((kd.take tn).length = tn) := Lib.hid (by rw [List.length_take]; omega)
                  go_wp2_with (refine wpList_store_row rfl 73 (.tmp 10) (.tmp 59) rfl wr.heap.size #[.int .i64 kk, .string ⟨kn.toArray⟩, .int .i64 (ko : Int), .slice (some ⟨kb, ko2, none⟩) kd.length kc] rfl rfl _ _ HZ.out write_size rfl (by simp [Value.oneCell']) ?_; have x0 := HXA.out.cell 0 rfl; have x1 := HXA.out.cell 1 rfl; have x2 := HXA.out.cell 2 rfl; have x3 := HXA.out.cell 3 rfl; have q3 := HXA.out.free 3)
                  have HB5 := Lib.hid (HBA.out.setCell (p := ⟨wr.heap.size, 3, none⟩) (Nat.le_refl _) (.slice (some ⟨kb, ko2, none⟩) tn kc))
                  have HR5 := Lib.hid ((HRB.out.below HB5.out).take tn)
                  have HDO5 := Lib.hid (HDO.out _ (kd.take tn) HB5.out HR5.out (by rw [HTL.out]; omega))
                  rw [HTL.out] at HDO5
                  with_reducible refine HDO5.out.mono ?_
                  rintro e w4 ⟨A4, c4, L4, rfl, hv4, hO4, hb4⟩
                  have hBb : Below wr.heap.size wr w4 := Below.trans HB5.out (hb4.mono HB5.out.size)
                  have hB4 := hB.trans (hBb.mono hB.size)
                  have HO4 := Lib.hid (hO4.base_le (Nat.le_trans hB.size HB5.out.size))
                  have hL4 : L4.length ≤ L.length + (k + 1) := by
                    have e1 := congrArg List.length hv4.out
                    have e2 := HKL.out ⟨kk, kn, ko, kd.take tn⟩
                    rw [List.length_map] at e1 e2
                    omega
                  have HV4 : Hid (L4.map FRow.val = (keepCut mask last (tn : Int) 0 ((U.map Prod.fst).take (k + 1))).foldl doF D.sure) := Lib.hid (by
                    rw [hv4.out, hv.out, HN.out, List.foldl_append]; rfl)
                  clear HDO hv4 hO4 hb4 hBb HN HKL HBA HXA HOA HBW HRA HRB HZ HO hv hB c1 d0 d1 d2 d3 HDO5 HR5 HB5 x0 x1 x2 x3 q3 HTL
                  go_wp2_with fail
                  go_roundw
                  case rel => exact ⟨k + 1, A4, c4, L4, hlt1, by go_num, rfl, hL4, HV4, HO4, hB4⟩
                  case measure => simp [intOf]; omega
                · have HN : Hid _ := HSN
                  rw [if_neg (fun h => ht1 h.2)] at HN
                  clear HSN
                  go_wp2_with (refine wpList_store_row rfl 73 (.tmp 10) (.tmp 59) rfl wr.heap.size #[.int .i64 kk, .string ⟨kn.toArray⟩, .int .i64 (ko : Int), .slice kA kd.length kc] rfl rfl _ _ HZ.out write_size rfl (by simp [Value.oneCell']) ?_; have x0 := HXA.out.cell 0 rfl; have x1 := HXA.out.cell 1 rfl; have x2 := HXA.out.cell 2 rfl; have x3 := HXA.out.cell 3 rfl)
                  with_reducible refine (HDO.out _ kd HBA.out HRA.out (Nat.le_refl _)).mono ?_
                  rintro e w4 ⟨A4, c4, L4, rfl, hv4, hO4, hb4⟩
                  have hBb : Below wr.heap.size wr w4 := Below.trans HBA.out (hb4.mono HBA.out.size)
                  have hB4 := hB.trans (hBb.mono hB.size)
                  have HO4 := Lib.hid (hO4.base_le (Nat.le_trans hB.size HBA.out.size))
                  have hL4 : L4.length ≤ L.length + (k + 1) := by
                    have e1 := congrArg List.length hv4.out
                    have e2 := HKL.out ⟨kk, kn, ko, kd⟩
                    rw [List.length_map] at e1 e2
                    omega
                  have HV4 : Hid (L4.map FRow.val = (keepCut mask last torn 0 ((U.map Prod.fst).take (k + 1))).foldl doF D.sure) := Lib.hid (by
                    rw [hv4.out, hv.out, HN.out, List.foldl_append]; rfl)
                  clear HDO hv4 hO4 hb4 hBb HN HKL HBA HXA HOA HBW HRA HRB HZ HO hv hB c1 d0 d1 d2 d3 x0 x1 x2 x3
                  go_wp2_with fail
                  go_roundw
                  case rel => exact ⟨k + 1, A4, c4, L4, hlt1, by go_num, rfl, hL4, HV4, HO4, hB4⟩
                  case measure => simp [intOf]; omega
              · have HN : Hid _ := HSN
                rw [if_neg (fun h => ht0 h.1)] at HN
                clear HSN
                go_wp2_with (refine wpList_store_row rfl 73 (.tmp 10) (.tmp 59) rfl wr.heap.size #[.int .i64 kk, .string ⟨kn.toArray⟩, .int .i64 (ko : Int), .slice kA kd.length kc] rfl rfl _ _ HZ.out write_size rfl (by simp [Value.oneCell']) ?_; have x0 := HXA.out.cell 0 rfl; have x1 := HXA.out.cell 1 rfl; have x2 := HXA.out.cell 2 rfl; have x3 := HXA.out.cell 3 rfl)
                with_reducible refine (HDO.out _ kd HBA.out HRA.out (Nat.le_refl _)).mono ?_
                rintro e w4 ⟨A4, c4, L4, rfl, hv4, hO4, hb4⟩
                have hBb : Below wr.heap.size wr w4 := Below.trans HBA.out (hb4.mono HBA.out.size)
                have hB4 := hB.trans (hBb.mono hB.size)
                have HO4 := Lib.hid (hO4.base_le (Nat.le_trans hB.size HBA.out.size))
                have hL4 : L4.length ≤ L.length + (k + 1) := by
                  have e1 := congrArg List.length hv4.out
                  have e2 := HKL.out ⟨kk, kn, ko, kd⟩
                  rw [List.length_map] at e1 e2
                  omega
                have HV4 : Hid (L4.map FRow.val = (keepCut mask last torn 0 ((U.map Prod.fst).take (k + 1))).foldl doF D.sure) := Lib.hid (by
                  rw [hv4.out, hv.out, HN.out, List.foldl_append]; rfl)
                clear HDO hv4 hO4 hb4 hBb HN HKL HBA HXA HOA HBW HRA HRB HZ HO hv hB c1 d0 d1 d2 d3 x0 x1 x2 x3
                go_wp2_with fail
                go_roundw
                case rel => exact ⟨k + 1, A4, c4, L4, hlt1, by go_num, rfl, hL4, HV4, HO4, hB4⟩
                case measure => simp [intOf]; omega
            · have hklb : ((k : Int) == last) = false := by simpa using hkl
              rw [if_neg hkl] at HSN
              have HN := HSN
              clear HSN hkl
              go_wp2_with (refine wpList_store_row rfl 73 (.tmp 10) (.tmp 59) rfl wr.heap.size #[.int .i64 kk, .string ⟨kn.toArray⟩, .int .i64 (ko : Int), .slice kA kd.length kc] rfl rfl _ _ HZ.out write_size rfl (by simp [Value.oneCell']) ?_; have x0 := HXA.out.cell 0 rfl; have x1 := HXA.out.cell 1 rfl; have x2 := HXA.out.cell 2 rfl; have x3 := HXA.out.cell 3 rfl)
              with_reducible refine (HDO.out _ kd HBA.out HRA.out (Nat.le_refl _)).mono ?_
              rintro e w4 ⟨A4, c4, L4, rfl, hv4, hO4, hb4⟩
              have hBb : Below wr.heap.size wr w4 := Below.trans HBA.out (hb4.mono HBA.out.size)
              have hB4 := hB.trans (hBb.mono hB.size)
              have HO4 := Lib.hid (hO4.base_le (Nat.le_trans hB.size HBA.out.size))
              have hL4 : L4.length ≤ L.length + (k + 1) := by
                have e1 := congrArg List.length hv4.out
                have e2 := HKL.out ⟨kk, kn, ko, kd⟩
                rw [List.length_map] at e1 e2
                omega
              have HV4 : Hid (L4.map FRow.val = (keepCut mask last torn 0 ((U.map Prod.fst).take (k + 1))).foldl doF D.sure) := Lib.hid (by
                rw [hv4.out, hv.out, HN.out, List.foldl_append]; rfl)
              clear HDO hv4 hO4 hb4 hBb HN HKL HBA HXA HOA HBW HRA HRB HZ HO hv hB c1 d0 d1 d2 d3 x0 x1 x2 x3
              go_wp2_with fail
              go_roundw
              case rel => exact ⟨k + 1, A4, c4, L4, hlt1, by go_num, rfl, hL4, HV4, HO4, hB4⟩
              case measure => simp [intOf]; omega
        · obtain rfl : k = U.length := by omega
          have HV := Lib.hid (hv.out.trans (by rw [List.take_of_length_le (by simp), HLAST.out, keepCut_eq, H.out.vu]))
          have HFO := Lib.hid HO.out.fs
          have hmg := H.out.mg
          have hR := H.out.below hB
          have f0 := hR.blk.free 0
          have f1 := hR.blk.free 1
          have f3 := hR.blk.free 3
          have f4 := hR.blk.free 4
          have c0 := hR.blk.cell 0 rfl
          have c3 := hR.blk.cell 3 rfl
          have c4 := hR.blk.cell 4 rfl
          have HFIN : Hid (RDone M S w g (fallD D mask torn) (.tuple #[]) (.returned (.tuple #[])) ((((wr.setCell ⟨g, 0, none⟩ (.slice A' L'.length c')).setCell ⟨g, 1, none⟩ (.slice none 0 0)).setCell ⟨g, 3, none⟩ (.int .i64 0)).setCell ⟨g, 4, none⟩ (.bool false))) := Lib.hid (by
            have hkb : ∀ b, b ≠ g → ((((wr.setCell ⟨g, 0, none⟩ (.slice A' L'.length c')).setCell ⟨g, 1, none⟩ (.slice none 0 0)).setCell ⟨g, 3, none⟩ (.int .i64 0)).setCell ⟨g, 4, none⟩ (.bool false)).heap[b]? = wr.heap[b]? := fun b hb => by
              rw [Below.heap_setCell _ _ _ b hb, Below.heap_setCell _ _ _ b hb, Below.heap_setCell _ _ _ b hb, Below.heap_setCell _ _ _ b hb]
            have hsz : ((((wr.setCell ⟨g, 0, none⟩ (.slice A' L'.length c')).setCell ⟨g, 1, none⟩ (.slice none 0 0)).setCell ⟨g, 3, none⟩ (.int .i64 0)).setCell ⟨g, 4, none⟩ (.bool false)).heap.size = wr.heap.size := by simp
            have hg2 := H.out.blk.lt
            have hbk : Blk ((((wr.setCell ⟨g, 0, none⟩ (.slice A' L'.length c')).setCell ⟨g, 1, none⟩ (.slice none 0 0)).setCell ⟨g, 3, none⟩ (.int .i64 0)).setCell ⟨g, 4, none⟩ (.bool false)) g 42 #[.slice A' L'.length c', .slice none 0 0, .int .i64 D.room, .int .i64 0, .bool false] :=
              (((hR.blk.setCell 0 (.slice A' L'.length c')).setCell 1 (.slice none 0 0)).setCell 3 (.int .i64 0)).setCell 4 (.bool false)
            refine ⟨rfl, ⟨M, fun b => w.heap.size ≤ b ∧ b < wr.heap.size, ⟨A', c', L', none, 0, [], ?_⟩, fun b hb => .inl hb, fun b hb => .inr ⟨hb.1, by rw [hsz]; exact hb.2⟩⟩, ((((Mods.of_below hB).setCell _ (.inl hmg) _).setCell _ (.inl hmg) _).setCell _ (.inl hmg) _).setCell _ (.inl hmg) _⟩
            refine ⟨hbk, HFO.out.of_blocks (by rw [hsz]; exact Nat.le_refl _) fun b _ hb => hkb b (by omega), ⟨OR.nil _ _ _ _, by simp, by simp, by simp, by simp⟩, hmg, HV.out, rfl, ?_, ?_, fun b hb hM => by have := H.out.bnd b (.inl hM); omega, fun b hb => by
              rw [hsz]
              rcases hb with hb | hb
              · have := H.out.bnd b (.inl hb); have := hB.size; omega
              · exact hb.2⟩
            · show Rising (List.foldl doF D.sure (fallUs mask torn D.unsure)); exact rising_foldl H.out.ris
            · refine ⟨H.out.ok.1, by simp [fallD], foldl_small H.out.ok.2.2.1 ?_, by simp [fallD]⟩
              have := keepCut_ok (mask := mask) (last := lastPut mask 0 D.unsure) (torn := torn) (k := 0) H.out.ok.2.2.2
              rw [keepCut_eq] at this
              exact this)
          clear hv HO HLAST HV HFO hR hB H
          go_wp2_with fail
          exact bodyPost_end (v := .tuple #[]) (by kernel_rfl) rfl HFIN.out
end
end Go.Proofs.YthdmnajcphaekaaDoor
