/- The walk of DiskSyncs (printed by gen_wdisk.py). -/
import Derived.Test.YthdmnajcphaekaaDoorGrown
import Derived.Test.YthdmnajcphaekaaDoorDskR
namespace Go.Proofs.YthdmnajcphaekaaDoor
open Go.RowKit

theorem readBack {D : DSt} (hd : D.down = false) (hn : D.named) (hr : Rising D.files) {p : Nm × List UInt8} (hp : p ∈ D.files) : readE D p.1 = 0 ∧ readB D p.1 = p.2 := by
  have hget : fget D.files p.1 = some p.2 := fget_of_mem (rising_nodup hr) hp
  have hre : readE D p.1 = 0 := by unfold readE; rw [hd, if_neg (by simp), if_neg (by rw [hn.files _ hp]; simp), hget]; rfl
  exact ⟨hre, by unfold readB; rw [hre, if_pos rfl, hget]; rfl⟩
theorem DI.ris {S : Nat → Prop} {w : World} {g : Nat} {D : DSt} (h : DI S w g D) : Rising D.files := by
  obtain ⟨mf, ms, _, _, hd⟩ := h
  exact hd.ris.1
theorem DI.ok {S : Nat → Prop} {w : World} {g : Nat} {D : DSt} (h : DI S w g D) : D.ok := by
  obtain ⟨mf, ms, _, _, hd⟩ := h
  exact hd.ok
/-- A disk on which all is sure. -/
def allSure (D : DSt) : DSt := { D with sure := D.files, unsure := [], fuse := 0, down := false }
theorem syncD_free {D : DSt} (hd : D.down = false) (hf : ¬ 0 < D.fuse) : syncD D = (0, { D with sure := D.files, unsure := [] }) := by
  have hb : burnD D = D := by unfold burnD; rw [if_neg hf]
  unfold syncD
  rw [hb, hd, if_neg (by simp), if_neg (by simp)]
  show (0, (⟨D.files, [], D.room, D.fuse, D.down⟩ : DSt)) = _
  rw [hd]
theorem fall_sync {D : DSt} (hd : D.down = false) (hf : ¬ 0 < D.fuse) (mask : Nat) (torn : Int) : fallD (syncD D).2 mask torn = allSure D := by
  rw [syncD_free hd hf]; rfl
theorem fall_all (D : DSt) : fallD D 18446744073709551615 (-1) = allSure D := by
  unfold fallD
  rw [fallUs_all]
  rfl
theorem allSure_files (D : DSt) : (allSure D).files = D.files := rfl
theorem DSt.good.allSure {D : DSt} {n : Nat} (h : D.good n) : (allSure D).good n := by
  rw [← fall_all]; exact h.fall _ _
theorem FO.of_mods {n c : Nat} {R : Nat → Prop} {w w' : World} {A : Option Addr} {L : List FRow} (h : FO n w A c L) (m : Mods R w w') (hn : ∀ b, n ≤ b → b < w.heap.size → ¬ R b) : FO n w' A c L :=
  ⟨h.row.mods m fun b hb => hn b (h.row.blk_lt b hb).1 (h.row.blk_lt b hb).2, fun p hp => (h.dat p hp).mods m fun b hb => hn b ((h.dat p hp).blk_lt b hb).1 ((h.dat p hp).blk_lt b hb).2, h.apart⟩
/-- Mods of a new disk leave what was there before. -/
theorem Below.news {T : Nat → Prop} {w0 w w' : World} (hb : Below w0.heap.size w0 w) (m : Mods T w w') (hn : ∀ b, T b → News w0 w b) : Below w0.heap.size w0 w' := Mods.old hb m hb.size fun i _ hi => (hn i hi).1

set_option maxRecDepth 20000 in
set_option maxHeartbeats 8000000 in
theorem walkDiskSyncs (room : Int) (X : Option Addr) (c : Nat) (L0 : List (List Fv)) (mask torn : Int) (sync : Bool) (w : World) (hroom : I64 room) (hX : RS w X 5 (L0.map (·.map Fv.val))) (hL : L0.length ≤ 9223372036854775807) (hR : ∀ r ∈ L0, rowOk w actK r) (hmask : 0 ≤ mask ∧ mask ≤ 18446744073709551615) (htorn : I64 torn) :
    Calls Tryd.prog 5 #[.int .i64 room, .slice X L0.length c, .int .u64 mask, .int .i64 torn, .bool sync] w fun e w' => e = .returned (.bool true) ∧ Below w.heap.size w w' := by
  obtain ⟨m, rfl⟩ : ∃ m : Nat, mask = (m : Int) := ⟨mask.toNat, by omega⟩
  obtain ⟨L, hL', hacts⟩ := acts_of hX hR
  rw [← hL'] at hL ⊢
  have GR := Lib.hid (lawGrown room X c L w hacts hL)
  have HTORN := Lib.hid htorn
  clear hX hR hL' hacts htorn
  go_enter Tryd.func5, Tryd.ntmps5
  go_wp2_with fail
  refine GR.out.mono ?_
  rintro e w1 ⟨d, g, T, M, S, D, rfl, hp, hn, hgd, hb1⟩
  have HP := Lib.hid hp
  have HN := Lib.hid hn
  have HG := Lib.hid hgd
  clear GR hp hn hgd
  go_wp2_with fail
  refine (lawAnswers _).mono ?_
  rintro e w2 ⟨rfl, hb2⟩
  have hb := hb1.trans (hb2.mono hb1.size)
  have HP := Lib.hid (HP.out.below hb2)
  have HN : Hid (∀ b, T b → News w w2 b) := Lib.hid fun b hb => ⟨(HN.out b (.inl hb)).1, Nat.lt_of_lt_of_le (HN.out b (.inl hb)).2 hb2.size⟩
  obtain ⟨A, cc, Lr, B, cu, U, hr⟩ := HP.out.ri
  have g4 := hr.blk.cell 4 rfl
  have g3 := hr.blk.cell 3 rfl
  have hcnt : D.cnt ≤ 1000000 := Nat.le_trans HG.out.1 (by omega)
  have FL := Lib.hid (refFiles hr hcnt)
  have HDI := Lib.hid HP.out.di
  have HRIS0 := Lib.hid HP.out.di.ris
  clear hb1 hb2 hr
  by_cases hdn : D.down = true
  · rw [hdn] at g4
    go_wp2_with fail
    go_ret
    exact ⟨rfl, hb⟩
  have hdn' : D.down = false := by simpa using hdn
  rw [hdn'] at g4
  by_cases hfu : 0 < D.fuse
  · generalize D.fuse = fz at *
    go_wp2_with fail
    go_ret
    exact ⟨rfl, hb⟩
  have HFS := Lib.hid (fall_sync hdn' hfu m torn)
  have HS0 : Hid ((syncD D).1 = 0) := Lib.hid (by rw [syncD_free hdn' hfu])
  have hfu' : ¬ 0 < D.fuse := hfu
  generalize hfz : D.fuse = fz at g3 hfu'
  clear hfz hfu hdn hdn'
  go_wp2_with fail
  refine FL.out.mono ?_
  rintro e w3 ⟨A5, c5, L5, rfl, HV5, hO5, hb3⟩
  have hB3 := hb.trans (hb3.mono hb.size)
  have HO5 := Lib.hid hO5
  have HDI := Lib.hid (HDI.out.below hb3)
  have HN : Hid (∀ b, T b → News w w3 b) := Lib.hid fun b hb => ⟨(HN.out b hb).1, Nat.lt_of_lt_of_le (HN.out b hb).2 hb3.size⟩
  have HTB : Hid (∀ b, T b → b < w2.heap.size) := Lib.hid fun b hb => HP.out.di.bnd b hb
  have hl5 : L5.length ≤ 1000000 := by have := congrArg List.length HV5.out; rw [List.length_map] at this; have := DSt.files_len D; omega
  have hs3 := hb3.size
  clear FL hO5 hb3 HP g3 g4 hb
  have SY := Lib.hid (diskSyncC HDI.out hcnt)
  rw [HS0.out] at SY
  cases sync
  case' false =>
    have FA := Lib.hid (diskFallC 18446744073709551615 (-1) HDI.out hcnt (by decide) (by decide))
    rw [fall_all] at FA
    rw [show ((18446744073709551615 : Nat) : Int) = 18446744073709551615 from rfl] at FA
    clear SY
    go_wp2_with fail
    refine FA.out.mono ?_
    rintro e w4 ⟨rfl, hdi, hm⟩
    obtain ⟨T4, HD4⟩ : ∃ T4, Hid (DI T4 w4 d (allSure D)) := ⟨_, Lib.hid hdi⟩
    have hB4 := Below.news hB3 hm HN.out
    have HO54 := Lib.hid (HO5.out.of_mods hm fun b hb _ hT => by have := HTB.out b hT; omega)
    clear hdi hm FA
  case' true =>
    go_wp2_with fail
    refine SY.out.mono ?_
    rintro e wy ⟨rfl, hdy, hmy⟩
    have FA := Lib.hid (diskFallC m torn hdy (Nat.le_trans HG.out.sync.1 (by omega)) (by omega) HTORN.out)
    rw [HFS.out] at FA
    clear SY hdy
    go_wp2_with fail
    refine FA.out.mono ?_
    rintro e w4 ⟨rfl, hdi, hm0⟩
    have hm : Mods T w3 w4 := hmy.trans hm0 fun i hi => hi.imp id (fun h => h.1)
    obtain ⟨T4, HD4⟩ : ∃ T4, Hid (DI T4 w4 d (allSure D)) := ⟨_, Lib.hid hdi⟩
    have hB4 := Below.news hB3 hm HN.out
    have HO54 := Lib.hid (HO5.out.of_mods hm fun b hb _ hT => by have := HTB.out b hT; omega)
    clear hdi hm FA hm0 hmy
  all_goals
    have HFF : Hid ((allSure D).files = D.files) := Lib.hid rfl
    have HU0 : Hid ((allSure D).unsure = []) := Lib.hid rfl
    have HDN : Hid ((allSure D).down = false) := Lib.hid rfl
    have HGF := Lib.hid HG.out.allSure
    generalize allSure D = F at *
    have HV5 : Hid (L5.map FRow.val = F.files) := Lib.hid (by rw [HFF.out]; exact HV5.out)
    have HNM := Lib.hid HGF.out.2
    have hcF : F.cnt ≤ 1000000 := Nat.le_trans HGF.out.1 (by omega)
    have HRIS := Lib.hid HD4.out.ris
    have US := Lib.hid (diskUnsureC HD4.out hcF)
    clear HFS HS0 HDI HN HTB HO5 hB3 HRIS0 HG HFF HGF
    go_wp2_with fail
    refine US.out.mono ?_
    rintro e w5 ⟨A7, c7, U7, rfl, hv7, hu7, hb7⟩
    have hU0 : U7.length = 0 := by have := congrArg List.length hv7.out; rw [HU0.out, List.length_map] at this; simpa using this
    rw [hU0]
    have hB5 := hB4.trans (hb7.mono hB4.size)
    have HDI := Lib.hid (HD4.out.below hb7)
    have HO5 := Lib.hid (HO54.out.below hb7)
    have DNC := Lib.hid (diskDownC HDI.out)
    rw [HDN.out] at DNC
    clear US hv7 hu7 hU0 hb7 HD4 HO54 hB4
    go_wp2_with fail
    refine DNC.out.mono ?_
    rintro e w5' ⟨rfl, rfl⟩
    clear DNC
    go_wp2_with fail
    go_loopw [14] (fun sk wr => ∃ k : Nat, k ≤ L5.length ∧ sk = .int .i64 (k : Int) ∧ Below w5.heap.size w5 wr) (fun sk _ => L5.length - (intOf sk).toNat)
    case atStart => exact ⟨0, Nat.zero_le _, rfl, Below.refl _ _⟩
    case round =>
      obtain ⟨k, hk, rfl, hB⟩ := hrel
      by_cases hlt : k < L5.length
      · have hFO := HO5.out.below hB
        obtain ⟨bf, fo, hA5, hbf, f0, f1⟩ := hFO.rd.row hlt
        have HDF := Lib.hid (hFO.dat _ (List.getElem_mem hlt)).rb
        have hmf : L5[k].val ∈ (F).files := by rw [← HV5.out]; exact List.mem_map.2 ⟨_, List.getElem_mem hlt, rfl⟩
        obtain ⟨hre, hrb⟩ := readBack HDN.out HNM.out HRIS.out hmf
        have hre : readE (F) L5[k].name = 0 := hre
        have hrb : readB (F) L5[k].name = L5[k].data := hrb
        have hno : nameOk L5[k].name = true := HNM.out.files _ hmf
        have RD := Lib.hid (diskReadC L5[k].name (HDI.out.below hB) (by have := nameOk_len hno; omega))
        unfold ReadEnd at RD
        rw [hre, hrb] at RD
        generalize L5[k].name = nm at *
        generalize L5[k].data = dat at *
        generalize L5[k].A = fA at *
        generalize L5[k].c = fc at *
        subst hA5
        have hlt1 : k + 1 ≤ L5.length := hlt
        have HF1 := Lib.hid f1
        clear hFO hmf hno hre hrb f1
        go_wp2_with fail
        refine RD.out.mono ?_
        rintro e w6 ⟨A8, c8, rfl, ho8, hb8⟩
        have hbf6 := Nat.lt_of_lt_of_le hbf hb8.size
        have hB6 := hB.trans (hb8.mono hB.size)
        have HC8 := Lib.hid ho8.rb
        have HDF6 := Lib.hid (HDF.out.below hb8)
        have HG1 := Lib.hid (hb8.cell (p := ⟨bf, fo + k * 2 + 1, none⟩) hbf |>.trans HF1.out)
        clear f0 RD HDF HF1 ho8 hb8 hB
        go_wp2_with fail
        refine wp_region_planE_gen (by kernel_rfl) [(0, none), (1, none), (2, none), (3, none), (4, none), (5, none), (6, none), (7, none), (8, none), (9, none), (10, none), (11, none), (12, none)] (by kernel_rfl) (by kernel_rfl) (by decide) ?_
        intro wq hwq
        have hbq : Below w6.heap.size w6 wq := by rw [hwq]; exact (Below.refl _ _).drew
        have f1 := hbq.cell (p := ⟨bf, fo + k * 2 + 1, none⟩) hbf6 |>.trans HG1.out
        have hBq := hB6.trans (hbq.mono hB6.size)
        have HQ8 := Lib.hid (HC8.out.below hbq)
        have HQF := Lib.hid (HDF6.out.below hbq)
        clear hwq hbq
        iterate 4 (refine planE_pure (v := ?_) rfl (by rfl) (fun w' => ?_) ?_; rotate_left; (focus (simp only [List.getElem_toArray, List.getElem_cons_succ, List.getElem_cons_zero]; go_simp; first | with_reducible rfl | (simp (disch := omega) only [if_pos, if_neg, dif_pos, Result.andThen_ok]; try with_reducible rfl) | skip)); try simp only [List.getElem_toArray, List.getElem_cons_succ, List.getElem_cons_zero, Act.put, List.setIfInBounds_toArray, List.set_cons_zero, List.set_cons_succ])
        refine planE_read (v := ?_) (fun w' => (convert 23 9 (.slice A8 dat.length c8)).run Tryd.prog w' = .ok (.string ⟨dat.toArray⟩) w') rfl (by rfl) (fun w' hw' => ?_) (convB c8 HQ8.out) ?_; rotate_left; (focus (simp only [List.getElem_toArray, List.getElem_cons_succ, List.getElem_cons_zero]; go_simp; first | with_reducible rfl | (simp (disch := omega) only [if_pos, if_neg, dif_pos, Result.andThen_ok]; try with_reducible rfl) | skip)); try simp only [List.getElem_toArray, List.getElem_cons_succ, List.getElem_cons_zero, Act.put, List.setIfInBounds_toArray, List.set_cons_zero, List.set_cons_succ]
        iterate 4 (refine planE_pure (v := ?_) rfl (by rfl) (fun w' => ?_) ?_; rotate_left; (focus (simp only [List.getElem_toArray, List.getElem_cons_succ, List.getElem_cons_zero]; go_simp; first | with_reducible rfl | (simp (disch := omega) only [if_pos, if_neg, dif_pos, Result.andThen_ok]; try with_reducible rfl) | skip)); try simp only [List.getElem_toArray, List.getElem_cons_succ, List.getElem_cons_zero, Act.put, List.setIfInBounds_toArray, List.set_cons_zero, List.set_cons_succ])
        refine planE_cells (v := ?_) [(⟨bf, fo + k * 2 + 1, none⟩, .slice fA dat.length fc)] (by simp; and_intros <;> assumption) rfl (by rfl) (fun w' hw' => ?_) ?_; rotate_left; (focus (simp only [List.forall_mem_cons, List.not_mem_nil, false_imp_iff, implies_true, and_true] at hw'; simp only [List.getElem_toArray, List.getElem_cons_succ, List.getElem_cons_zero]; go_simp; first | with_reducible rfl | (simp (disch := omega) only [if_pos, if_neg, dif_pos, Result.andThen_ok]; try with_reducible rfl) | skip)); try simp only [List.getElem_toArray, List.getElem_cons_succ, List.getElem_cons_zero, Act.put, List.setIfInBounds_toArray, List.set_cons_zero, List.set_cons_succ]
        refine planE_read (v := ?_) (fun w' => (convert 23 9 (.slice fA dat.length fc)).run Tryd.prog w' = .ok (.string ⟨dat.toArray⟩) w') rfl (by rfl) (fun w' hw' => ?_) (convB fc HQF.out) ?_; rotate_left; (focus (simp only [List.getElem_toArray, List.getElem_cons_succ, List.getElem_cons_zero]; go_simp; first | with_reducible rfl | (simp (disch := omega) only [if_pos, if_neg, dif_pos, Result.andThen_ok]; try with_reducible rfl) | skip)); try simp only [List.getElem_toArray, List.getElem_cons_succ, List.getElem_cons_zero, Act.put, List.setIfInBounds_toArray, List.set_cons_zero, List.set_cons_succ]
        iterate 2 (refine planE_pure (v := ?_) rfl (by rfl) (fun w' => ?_) ?_; rotate_left; (focus (simp only [List.getElem_toArray, List.getElem_cons_succ, List.getElem_cons_zero]; go_simp; first | with_reducible rfl | (simp (disch := omega) only [if_pos, if_neg, dif_pos, Result.andThen_ok]; try with_reducible rfl) | skip)); try simp only [List.getElem_toArray, List.getElem_cons_succ, List.getElem_cons_zero, Act.put, List.setIfInBounds_toArray, List.set_cons_zero, List.set_cons_succ])
        refine planE_end ?_
        clear f1
        go_wp2_with fail
        go_roundw
        case rel => exact ⟨k + 1, hlt1, by go_num, hBq⟩
        case measure => simp [intOf]; omega
      · obtain rfl : k = L5.length := by omega
        have NMC := Lib.hid (diskNamesC (HDI.out.below hB) hcF (fun p hp => by have := nameOk_len (HNM.out.files p hp); omega))
        have hnl : (namesD F).length = L5.length := by unfold namesD; rw [HDN.out, ← HV5.out]; simp
        unfold NamesEnd at NMC
        rw [hnl] at NMC
        clear hnl
        go_wp2_with fail
        refine NMC.out.mono ?_
        rintro e w7 ⟨A9, c9, rfl, _, hb9⟩
        have hBz := hB5.trans ((hB.trans (hb9.mono hB.size)).mono hB5.size)
        clear hb9 hB hB5 NMC
        go_wp2_with fail
        go_ret
        exact ⟨rfl, hBz⟩
end Go.Proofs.YthdmnajcphaekaaDoor
