/- The walk of DiskLoses (printed by gen_wdisk.py). -/
import Derived.Test.YthdmnajcphaekaaDoorGrown
import Derived.Test.YthdmnajcphaekaaDoorWDiskB
namespace Go.Proofs.YthdmnajcphaekaaDoor
open Go.RowKit

theorem Pair2.on {R T M S : Nat → Prop} {w0 w w' : World} {d g : Nat} {D E : DSt} (h : Pair2 T M S w d D g E w') (hn : ∀ b, T b ∨ M b ∨ S b → R b ∨ News w0 w b) (m0 : Mods R w0 w) :
    ∃ T' M' S' : Nat → Prop, Pair T' M' S' w' d D g E ∧ (∀ b, T' b ∨ M' b ∨ S' b → R b ∨ News w0 w' b) ∧ Mods R w0 w' := by
  obtain ⟨⟨T', M', S', hp, hT, hM, hS⟩, m⟩ := h
  have hs := m0.size
  have hs' := m.size
  have key : ∀ b, (T b ∨ M b ∨ S b) ∨ News w w' b → R b ∨ News w0 w' b := fun b hb => by
    rcases hb with hb | hb
    · rcases hn b hb with h | h
      · exact .inl h
      · exact .inr ⟨h.1, by have := h.2; omega⟩
    · exact .inr ⟨by have := hb.1; omega, hb.2⟩
  refine ⟨T', M', S', hp, fun b hb => key b ?_, m0.trans m fun i hi => ?_⟩
  · rcases hb with hb | hb | hb
    · exact (hT b hb).elim (fun h => .inl (.inl h)) .inr
    · exact (hM b hb).elim (fun h => .inl (.inr (.inl h))) .inr
    · exact (hS b hb).elim (fun h => .inl (.inr (.inr h))) .inr
  · have := hn i (hi.elim .inl fun h => .inr (.inl h))
    exact this.imp id fun h => h.1
theorem change_sure (D : DSt) (c : Wr) (off : Int) : (changeD D c off).2.sure = D.sure := by
  unfold changeD
  split
  · rfl
  · split
    · exact burnD_sure D
    · exact burnD_sure D
theorem act_sure {D : DSt} {kind : Int} {name : Nm} {n : Int} {data : List UInt8} {mask : Nat} (h : 1 ≤ kind ∧ kind ≤ 3) : (actD D kind name n data mask).sure = D.sure := by
  unfold actD
  split
  · exact change_sure _ _ _
  · split
    · exact change_sure _ _ _
    · split
      · exact change_sure _ _ _
      · omega
/-- What a fall leaves that keeps nothing. -/
def bare (D : DSt) : DSt := { D with unsure := [], fuse := 0, down := false }
theorem fall_none (D : DSt) (torn : Int) : fallD D 0 torn = bare D := by
  unfold fallD
  rw [fallUs_zero]
  rfl
theorem fall_bare (D : DSt) (mask : Nat) (torn : Int) : fallD (bare D) mask torn = bare D := rfl

set_option maxRecDepth 20000 in
set_option maxHeartbeats 16000000 in
theorem walkDiskLoses (room : Int) (X : Option Addr) (c : Nat) (L0 : List (List Fv)) (Z : Option Addr) (cz : Nat) (N0 : List (List Fv)) (mask torn : Int) (w : World) (hroom : I64 room) (hX : RS w X 5 (L0.map (·.map Fv.val))) (hL : L0.length ≤ 9223372036854775807) (hR : ∀ r ∈ L0, rowOk w actK r) (hZ : RS w Z 5 (N0.map (·.map Fv.val))) (hN : N0.length ≤ 9223372036854775807) (hQ : ∀ r ∈ N0, rowOk w actK r) (hmask : 0 ≤ mask ∧ mask ≤ 18446744073709551615) (htorn : I64 torn) :
    Calls Tryd.prog 4 #[.int .i64 room, .slice X L0.length c, .slice Z N0.length cz, .int .u64 mask, .int .i64 torn] w fun e w' => e = .returned (.bool true) ∧ Below w.heap.size w w' := by
  obtain ⟨m, rfl⟩ : ∃ m : Nat, mask = (m : Int) := ⟨mask.toNat, by omega⟩
  obtain ⟨L, hL', hacts⟩ := acts_of hX hR
  rw [← hL'] at hL ⊢
  have GR := Lib.hid (lawGrown room X c L w hacts hL)
  obtain ⟨N, hN', hmore⟩ := acts_of hZ hQ
  rw [← hN'] at hN ⊢
  have HA := Lib.hid hmore
  have HTORN := Lib.hid htorn
  have hm64 : m < 18446744073709551616 := by omega
  clear hX hR hL' hacts htorn hZ hQ hN' hmore hmask
  go_enter Tryd.func4, Tryd.ntmps4
  go_wp2_with fail
  refine GR.out.mono ?_
  rintro e w1 ⟨d, g, T, M, S, D, rfl, hp, hn, hgd, hb1⟩
  have HP := Lib.hid hp
  have HN := Lib.hid hn
  have HG := Lib.hid hgd
  clear GR hp hn hgd
  go_wp2_with fail
  refine (lawAnswers _).mono ?_
  rintro e w2 ⟨rfl, hb2⟩
  have hb := hb1.trans (hb2.mono hb1.size)
  have HP := Lib.hid (HP.out.below hb2)
  have HN : Hid (∀ b, T b ∨ M b ∨ S b → News w w2 b) := Lib.hid fun b hb => ⟨(HN.out b hb).1, Nat.lt_of_lt_of_le (HN.out b hb).2 hb2.size⟩
  obtain ⟨A, cc, Lr, B, cu, U, hr⟩ := HP.out.ri
  have g4 := hr.blk.cell 4 rfl
  have g3 := hr.blk.cell 3 rfl
  have hcnt : D.cnt ≤ 1000000 := Nat.le_trans HG.out.1 (by omega)
  have SY := Lib.hid (diskSyncC HP.out.di hcnt)
  clear hb1 hb2 hr
  by_cases hdn : D.down = true
  · rw [hdn] at g4
    go_wp2_with fail
    refine (lawAnswers _).mono ?_
    rintro e w3 ⟨rfl, hb3⟩
    have hB3 := hb.trans (hb3.mono hb.size)
    clear hb3 hb
    go_wp2_with fail
    go_ret
    exact ⟨rfl, hB3⟩
  have hdn' : D.down = false := by simpa using hdn
  rw [hdn'] at g4
  by_cases hfu : 0 < D.fuse
  · generalize D.fuse = fz at *
    go_wp2_with fail
    refine (lawAnswers _).mono ?_
    rintro e w3 ⟨rfl, hb3⟩
    have hB3 := hb.trans (hb3.mono hb.size)
    clear hb3 hb
    go_wp2_with fail
    go_ret
    exact ⟨rfl, hB3⟩
  obtain ⟨E, hE, hsu, hfi⟩ : ∃ E : DSt, syncD D = (0, E) ∧ E.sure = D.files ∧ E.files = D.files := ⟨_, syncD_free hdn' hfu, rfl, rfl⟩
  have HSY := Lib.hid hE
  have HG4 := Lib.hid HG.out.sync
  rw [hE] at SY HG4
  have HSE := Lib.hid hsu
  have HSF := Lib.hid hfi
  clear hE hsu hfi
  have hfu' : ¬ 0 < D.fuse := hfu
  generalize hfz : D.fuse = fz at g3 hfu'
  clear hfz hfu hdn hdn'
  go_wp2_with fail
  refine SY.out.mono ?_
  rintro e w3 ⟨rfl, hdi3, hm3⟩
  have hri3 := HP.out.ri.mods hm3 fun b _ hb hT => by
    rcases hb with hb | hb
    · exact (HP.out.ap b hT).1 hb
    · exact (HP.out.ap b hT).2 hb
  obtain ⟨A, cc, Lr, B, cu, U, hr⟩ := hri3
  have RS3 := Lib.hid (refSync hr hcnt)
  have HM3 := Lib.hid (And.intro hdi3 hm3)
  clear SY hr hdi3 hm3 g3 g4
  go_wp2_with fail
  refine RS3.out.mono ?_
  rintro e w4 ⟨rfl, hdn4⟩
  rw [HSY.out] at hdn4
  obtain ⟨T4, M4, S4, hp4, hn4, hB4⟩ := (HP.out.fin (Below.refl _ _) HM3.out hdn4).old HN.out hb
  have HP4 := Lib.hid hp4
  have HN4 := Lib.hid hn4
  clear RS3 hdn4 HM3 hp4 hn4 HP HN hb HSY
  have hcE : E.cnt ≤ 1000000 := Nat.le_trans HG4.out.1 (by omega)
  obtain ⟨A, cc, Lr, B, cu, U, hr⟩ := HP4.out.ri
  have FL := Lib.hid (refFiles hr hcE)
  clear hr
  go_wp2_with fail
  refine FL.out.mono ?_
  rintro e w5 ⟨A5, c5, L5, rfl, HV5, hO5, hb5⟩
  have hB5 := hB4.trans (hb5.mono hB4.size)
  have HO5 := Lib.hid hO5
  have HP5 := Lib.hid (HP4.out.below hb5)
  have HRN : Hid (∀ b, T4 b ∨ M4 b ∨ S4 b → (w.heap.size ≤ b ∧ b < w4.heap.size) ∨ News w5 w5 b) := Lib.hid fun b hb => .inl (HN4.out b hb)
  have hl5 : L5.length ≤ 1000000 := by have := congrArg List.length HV5.out; rw [List.length_map] at this; have := DSt.files_len E; omega
  have hs4 := hB4.size
  clear FL hO5 hb5 HP4 HN4 HG hcnt
  go_wp2_with fail
  go_loopw [14] (fun sk wr => ∃ (k : Nat) (T M S : Nat → Prop) (F : DSt), k ≤ N.length ∧ k ≤ 100 ∧ sk = .int .i64 (k : Int) ∧ Hid (Pair T M S wr d F g F) ∧ Hid (∀ b, T b ∨ M b ∨ S b → (w.heap.size ≤ b ∧ b < w4.heap.size) ∨ News w5 wr b) ∧ Hid (Mods (fun b => w.heap.size ≤ b ∧ b < w4.heap.size) w5 wr) ∧ Hid (F.good (200 + k)) ∧ Hid (F.sure = E.sure)) (fun sk _ => N.length - (intOf sk).toNat)
  case atStart => exact ⟨0, T4, M4, S4, E, Nat.zero_le _, by omega, rfl, HP5, HRN, Lib.hid (Mods.refl _ _), HG4, Lib.hid rfl⟩
  case round =>
    clear HP5 HRN HG4
    obtain ⟨k, T, M, S, F, hk, hk2, rfl, HP, HRN, HMD, HG, HSU⟩ := hrel
    have hBw : Below w.heap.size w wr := Mods.old hB5 HMD.out hB5.size fun i _ hi => hi.1
    have hcnt : F.cnt ≤ 1000000 := Nat.le_trans HG.out.1 (by omega)
    by_cases hlt : k < N.length
    · by_cases hlt2 : k < 100
      · obtain ⟨b, off, rfl, hbl, a0, a1, a2, a3, a4⟩ := (HA.out.below hBw).row hlt
        have HOK := Lib.hid ((HA.out.2 _ (List.getElem_mem hlt)).below hBw)
        have HCL : Hid (0 < N[k].data.length → ∀ b, N[k].A.map (·.block) = some b → b < w.heap.size) := Lib.hid fun h0 b hb => RB.lt ((HA.out.2 _ (List.getElem_mem hlt)).rb) h0 b hb
        generalize N[k] = a at *
        obtain ⟨kind, name, n, A, ca, data, mask⟩ := a
        simp only at a0 a1 a2 a3 a4 HCL
        have SM := Lib.hid (lawSmall ⟨kind, name, n, A, ca, data, mask⟩ wr)
        have hlt1 : k + 1 ≤ N.length := hlt
        have hlt3 : k + 1 ≤ 100 := hlt2
        have ha0 := a0
        have ha1 := a1
        have ha2 := a2
        have ha3 := a3
        have ha4 := a4
        go_wp2_with fail
        refine SM.out.mono ?_
        rintro e w6 ⟨rfl, hb6⟩
        have HP6 := Lib.hid (HP.out.below hb6)
        have HR6 : Hid (∀ b, T b ∨ M b ∨ S b → (w.heap.size ≤ b ∧ b < w4.heap.size) ∨ News w5 w6 b) := Lib.hid fun b hb => (HRN.out b hb).imp id fun h => ⟨h.1, Nat.lt_of_lt_of_le h.2 hb6.size⟩
        have HM6 := Lib.hid (HMD.out.below hb6)
        have HG6 : Hid (F.good (200 + (k + 1))) := Lib.hid (HG.out.mono (Nat.le_succ _))
        have hs5 := hB5.size
        have HW6 : Hid (∀ b, T b ∨ M b ∨ S b → w.heap.size ≤ b) := Lib.hid fun b hb => by
          rcases HR6.out b hb with h | h
          · exact h.1
          · have := h.1; omega
        have HACT := Lib.hid (lawAct kind name n data A ca mask HP6.out (HOK.out.rb.below hb6) (fun h0 b hb => ⟨fun hT => by have := HCL.out h0 b hb; have := HW6.out b (.inl hT); omega, fun hT => by have := HCL.out h0 b hb; have := HW6.out b (.inr (.inl hT)); omega⟩) hcnt hcnt HOK.out.name HOK.out.n HOK.out.len HOK.out.mask)
        have c0 := (hb6.cell (p := ⟨b, off + k * 5, none⟩) hbl).trans ha0
        have c1 := (hb6.cell (p := ⟨b, off + k * 5 + 1, none⟩) hbl).trans ha1
        have c2 := (hb6.cell (p := ⟨b, off + k * 5 + 2, none⟩) hbl).trans ha2
        have c3 := (hb6.cell (p := ⟨b, off + k * 5 + 3, none⟩) hbl).trans ha3
        have c4 := (hb6.cell (p := ⟨b, off + k * 5 + 4, none⟩) hbl).trans ha4
        clear SM HCL HP HRN HMD hb6 a0 a1 a2 a3 a4 ha0 ha1 ha2 ha3 ha4
        cases hsm : AF.small ⟨kind, name, n, A, ca, data, mask⟩
        · clear hsm HACT
          go_wp2_with fail
          go_roundw
          case rel => exact ⟨k + 1, T, M, S, F, hlt1, hlt3, by go_num, HP6, HR6, HM6, HG6, HSU⟩
          case measure => simp [intOf]; omega
        · clear hsm
          by_cases hk1 : 1 ≤ kind
          · by_cases hk3 : kind ≤ 3
            · have HGA : Hid ((actD F kind name n data mask).good (200 + (k + 1))) := Lib.hid (HG.out.act kind name n data mask)
              have HSA : Hid ((actD F kind name n data mask).sure = E.sure) := Lib.hid (by rw [act_sure ⟨hk1, hk3⟩]; exact HSU.out)
              go_wp2_with fail
              refine HACT.out.mono ?_
              rintro e w7 ⟨bb, rfl, _, hp7⟩
              obtain ⟨T', M', S', hp', hn', hm'⟩ := hp7.on HR6.out HM6.out
              have HP7 := Lib.hid hp'
              have HR7 := Lib.hid hn'
              have HM7 := Lib.hid hm'
              clear hp7 hp' hn' hm' HACT c0 c1 c2 c3 c4 HP6 HR6 HM6 HOK HG HG6 HSU
              go_wp2_with fail
              go_roundw
              case rel => exact ⟨k + 1, T', M', S', _, hlt1, hlt3, by go_num, HP7, HR7, HM7, HGA, HSA⟩
              case measure => simp [intOf]; omega
            · clear HACT
              go_wp2_with fail
              go_roundw
              case rel => exact ⟨k + 1, T, M, S, F, hlt1, hlt3, by go_num, HP6, HR6, HM6, HG6, HSU⟩
              case measure => simp [intOf]; omega
          · clear HACT
            go_wp2_with fail
            go_roundw
            case rel => exact ⟨k + 1, T, M, S, F, hlt1, hlt3, by go_num, HP6, HR6, HM6, HG6, HSU⟩
            case measure => simp [intOf]; omega
      · have FA := Lib.hid (diskFallC 0 torn HP.out.di hcnt (by decide) HTORN.out)
        rw [fall_none] at FA
        rw [show ((0 : Nat) : Int) = 0 from rfl] at FA
        have HTW : Hid (∀ b, T b → News w wr b) := Lib.hid fun b hb => by
          have := hB5.size
          rcases HRN.out b (.inl hb) with h | h
          · exact ⟨h.1, HP.out.di.bnd b hb⟩
          · exact ⟨by have := h.1; omega, h.2⟩
        have HOr := Lib.hid (HO5.out.of_mods HMD.out fun b hb _ hR => by have := hR.2; omega)
        have HTO : Hid (∀ b, T b → ¬ (w4.heap.size ≤ b ∧ b < w5.heap.size)) := Lib.hid fun b hb h2 => by
          rcases HRN.out b (.inl hb) with h | h
          · have := h.2; omega
          · have := h.1; omega
        have HGG := Lib.hid (by have h := HG.out.fall 0 torn; rw [fall_none] at h; exact h)
        have HFB := Lib.hid (fall_bare F m torn)
        have HDN : Hid ((bare F).down = false) := Lib.hid rfl
        have HVF : Hid (L5.map FRow.val = (bare F).files) := Lib.hid (by rw [HV5.out, HSF.out, ← HSE.out, ← HSU.out]; rfl)
        have HV5 := HVF
        clear HVF HP HRN HSU HG
        have HMD2 := HMD
        generalize bare F = G at *
        have HNM := Lib.hid HGG.out.2
        have hcG : G.cnt ≤ 1000000 := Nat.le_trans HGG.out.1 (by omega)
        have hnl : (namesD G).length = L5.length := by unfold namesD; rw [HDN.out, ← HV5.out]; simp
        have HNL := Lib.hid hnl
        clear hnl
        go_wp2_with fail
        refine FA.out.mono ?_
        rintro e w8 ⟨rfl, hdi8, hm8⟩
        have HM8 : Hid (Mods (fun b => (w.heap.size ≤ b ∧ b < w4.heap.size)) w5 w8) := Lib.hid (HMD.out.trans hm8 fun i hi => by
          have h1 := HTW.out i hi
          have h2 := HTO.out i hi
          by_cases h3 : i < w4.heap.size
          · exact .inl ⟨h1.1, h3⟩
          · exact .inr (by omega))
        have HO8 := Lib.hid (HO5.out.of_mods HM8.out fun b hb _ hR => by have := hR.2; omega)
        have hB8 : Below w.heap.size w w8 := Below.news hBw hm8 HTW.out
        have HNG0 : Hid (∀ b, Sx T wr w8 b → News w w8 b) := Lib.hid fun b hb => by
          have := hBw.size
          rcases hb with hb | hb
          · exact ⟨(HTW.out b hb).1, Nat.lt_of_lt_of_le (HTW.out b hb).2 hm8.size⟩
          · exact ⟨by have := hb.1; omega, hb.2⟩
        have NMC := Lib.hid (diskNamesC hdi8 hcG (fun p hp => by have := nameOk_len (HNM.out.files p hp); omega))
        unfold NamesEnd at NMC
        rw [HNL.out] at NMC
        have HD8 := Lib.hid hdi8
        clear FA hdi8 hm8 HMD HMD2 HOr HTW HTO
        go_wp2_with fail
        refine NMC.out.mono ?_
        rintro e w9 ⟨A9, c9, rfl, _, hb9⟩
        have hBx := hB8.trans (hb9.mono hB8.size)
        have HDI := Lib.hid (HD8.out.below hb9)
        have HO5 := Lib.hid (HO8.out.below hb9)
        have HRIS := Lib.hid HD8.out.ris
        have HNG : Hid (∀ b, Sx T wr w8 b → ∀ wx, Below w9.heap.size w9 wx → News w wx b) := Lib.hid fun b hb wx hx => ⟨(HNG0.out b hb).1, by have := (HNG0.out b hb).2; have := hb9.size; have := hx.size; omega⟩
        clear NMC hb9 HD8 HO8 HM8 HNG0 hBw
        go_wp2_with fail
        go_loopw [15] (fun sk wr => ∃ k : Nat, k ≤ L5.length ∧ sk = .int .i64 (k : Int) ∧ Below w9.heap.size w9 wr) (fun sk _ => L5.length - (intOf sk).toNat)
        case atStart => exact ⟨0, Nat.zero_le _, rfl, Below.refl _ _⟩
        case round =>
          obtain ⟨k, hk, rfl, hB⟩ := hrel
          by_cases hlt : k < L5.length
          · have hFO := HO5.out.below hB
            obtain ⟨bf, fo, hA5, hbf, f0, f1⟩ := hFO.rd.row hlt
            have HDF := Lib.hid (hFO.dat _ (List.getElem_mem hlt)).rb
            have hmf : L5[k].val ∈ (G).files := by rw [← HV5.out]; exact List.mem_map.2 ⟨_, List.getElem_mem hlt, rfl⟩
            obtain ⟨hre, hrb⟩ := readBack HDN.out HNM.out HRIS.out hmf
            have hre : readE (G) L5[k].name = 0 := hre
            have hrb : readB (G) L5[k].name = L5[k].data := hrb
            have hno : nameOk L5[k].name = true := HNM.out.files _ hmf
            have RD := Lib.hid (diskReadC L5[k].name (HDI.out.below hB) (by have := nameOk_len hno; omega))
            unfold ReadEnd at RD
            rw [hre, hrb] at RD
            generalize L5[k].name = nm at *
            generalize L5[k].data = dat at *
            generalize L5[k].A = fA at *
            generalize L5[k].c = fc at *
            subst hA5
            have hlt1 : k + 1 ≤ L5.length := hlt
            have HF1 := Lib.hid f1
            clear hFO hmf hno hre hrb f1
            go_wp2_with fail
            refine RD.out.mono ?_
            rintro e w6 ⟨A8, c8, rfl, ho8, hb8⟩
            have hbf6 := Nat.lt_of_lt_of_le hbf hb8.size
            have hB6 := hB.trans (hb8.mono hB.size)
            have HC8 := Lib.hid ho8.rb
            have HDF6 := Lib.hid (HDF.out.below hb8)
            have HG1 := Lib.hid (hb8.cell (p := ⟨bf, fo + k * 2 + 1, none⟩) hbf |>.trans HF1.out)
            clear f0 RD HDF HF1 ho8 hb8 hB
            go_wp2_with fail
            refine wp_region_planE_gen (by kernel_rfl) [(0, none), (1, none), (2, none), (3, none), (4, none), (5, none), (6, none), (7, none), (8, none), (9, none), (10, none), (11, none), (12, none)] (by kernel_rfl) (by kernel_rfl) (by decide) ?_
            intro wq hwq
            have hbq : Below w6.heap.size w6 wq := by rw [hwq]; exact (Below.refl _ _).drew
            have f1 := hbq.cell (p := ⟨bf, fo + k * 2 + 1, none⟩) hbf6 |>.trans HG1.out
            have hBq := hB6.trans (hbq.mono hB6.size)
            have HQ8 := Lib.hid (HC8.out.below hbq)
            have HQF := Lib.hid (HDF6.out.below hbq)
            clear hwq hbq
            iterate 4 (refine planE_pure (v := ?_) rfl (by rfl) (fun w' => ?_) ?_; rotate_left; (focus (simp only [List.getElem_toArray, List.getElem_cons_succ, List.getElem_cons_zero]; go_simp; first | with_reducible rfl | (simp (disch := omega) only [if_pos, if_neg, dif_pos, Result.andThen_ok]; try with_reducible rfl) | skip)); try simp only [List.getElem_toArray, List.getElem_cons_succ, List.getElem_cons_zero, Act.put, List.setIfInBounds_toArray, List.set_cons_zero, List.set_cons_succ])
            refine planE_read (v := ?_) (fun w' => (convert 23 9 (.slice A8 dat.length c8)).run Tryd.prog w' = .ok (.string ⟨dat.toArray⟩) w') rfl (by rfl) (fun w' hw' => ?_) (convB c8 HQ8.out) ?_; rotate_left; (focus (simp only [List.getElem_toArray, List.getElem_cons_succ, List.getElem_cons_zero]; go_simp; first | with_reducible rfl | (simp (disch := omega) only [if_pos, if_neg, dif_pos, Result.andThen_ok]; try with_reducible rfl) | skip)); try simp only [List.getElem_toArray, List.getElem_cons_succ, List.getElem_cons_zero, Act.put, List.setIfInBounds_toArray, List.set_cons_zero, List.set_cons_succ]
            iterate 4 (refine planE_pure (v := ?_) rfl (by rfl) (fun w' => ?_) ?_; rotate_left; (focus (simp only [List.getElem_toArray, List.getElem_cons_succ, List.getElem_cons_zero]; go_simp; first | with_reducible rfl | (simp (disch := omega) only [if_pos, if_neg, dif_pos, Result.andThen_ok]; try with_reducible rfl) | skip)); try simp only [List.getElem_toArray, List.getElem_cons_succ, List.getElem_cons_zero, Act.put, List.setIfInBounds_toArray, List.set_cons_zero, List.set_cons_succ])
            refine planE_cells (v := ?_) [(⟨bf, fo + k * 2 + 1, none⟩, .slice fA dat.length fc)] (by simp; and_intros <;> assumption) rfl (by rfl) (fun w' hw' => ?_) ?_; rotate_left; (focus (simp only [List.forall_mem_cons, List.not_mem_nil, false_imp_iff, implies_true, and_true] at hw'; simp only [List.getElem_toArray, List.getElem_cons_succ, List.getElem_cons_zero]; go_simp; first | with_reducible rfl | (simp (disch := omega) only [if_pos, if_neg, dif_pos, Result.andThen_ok]; try with_reducible rfl) | skip)); try simp only [List.getElem_toArray, List.getElem_cons_succ, List.getElem_cons_zero, Act.put, List.setIfInBounds_toArray, List.set_cons_zero, List.set_cons_succ]
            refine planE_read (v := ?_) (fun w' => (convert 23 9 (.slice fA dat.length fc)).run Tryd.prog w' = .ok (.string ⟨dat.toArray⟩) w') rfl (by rfl) (fun w' hw' => ?_) (convB fc HQF.out) ?_; rotate_left; (focus (simp only [List.getElem_toArray, List.getElem_cons_succ, List.getElem_cons_zero]; go_simp; first | with_reducible rfl | (simp (disch := omega) only [if_pos, if_neg, dif_pos, Result.andThen_ok]; try with_reducible rfl) | skip)); try simp only [List.getElem_toArray, List.getElem_cons_succ, List.getElem_cons_zero, Act.put, List.setIfInBounds_toArray, List.set_cons_zero, List.set_cons_succ]
            iterate 2 (refine planE_pure (v := ?_) rfl (by rfl) (fun w' => ?_) ?_; rotate_left; (focus (simp only [List.getElem_toArray, List.getElem_cons_succ, List.getElem_cons_zero]; go_simp; first | with_reducible rfl | (simp (disch := omega) only [if_pos, if_neg, dif_pos, Result.andThen_ok]; try with_reducible rfl) | skip)); try simp only [List.getElem_toArray, List.getElem_cons_succ, List.getElem_cons_zero, Act.put, List.setIfInBounds_toArray, List.set_cons_zero, List.set_cons_succ])
            refine planE_end ?_
            clear f1
            go_wp2_with fail
            go_roundw
            case rel => exact ⟨k + 1, hlt1, by go_num, hBq⟩
            case measure => simp [intOf]; omega
          · obtain rfl : k = L5.length := by omega
            have FA3 := Lib.hid (diskFallC m torn (HDI.out.below hB) hcG hm64 HTORN.out)
            rw [HFB.out] at FA3
            go_wp2_with fail
            refine FA3.out.mono ?_
            rintro e wz ⟨rfl, hdz, hmz⟩
            have hBz := Below.news (hBx.trans (hB.mono hBx.size)) hmz fun b hb => HNG.out b hb wr hB
            have NMC := Lib.hid (diskNamesC hdz hcG (fun p hp => by have := nameOk_len (HNM.out.files p hp); omega))
            have hnl : (namesD G).length = L5.length := by unfold namesD; rw [HDN.out, ← HV5.out]; simp
            unfold NamesEnd at NMC
            rw [hnl] at NMC
            clear hnl FA3 hdz hmz
            go_wp2_with fail
            refine NMC.out.mono ?_
            rintro e w7 ⟨A9, c9, rfl, _, hb9⟩
            have hBy := hBz.trans (hb9.mono hBz.size)
            clear hb9 hB hBz NMC
            go_wp2_with fail
            go_ret
            exact ⟨rfl, hBy⟩
    · have FA := Lib.hid (diskFallC 0 torn HP.out.di hcnt (by decide) HTORN.out)
      rw [fall_none] at FA
      rw [show ((0 : Nat) : Int) = 0 from rfl] at FA
      have HTW : Hid (∀ b, T b → News w wr b) := Lib.hid fun b hb => by
        have := hB5.size
        rcases HRN.out b (.inl hb) with h | h
        · exact ⟨h.1, HP.out.di.bnd b hb⟩
        · exact ⟨by have := h.1; omega, h.2⟩
      have HOr := Lib.hid (HO5.out.of_mods HMD.out fun b hb _ hR => by have := hR.2; omega)
      have HTO : Hid (∀ b, T b → ¬ (w4.heap.size ≤ b ∧ b < w5.heap.size)) := Lib.hid fun b hb h2 => by
        rcases HRN.out b (.inl hb) with h | h
        · have := h.2; omega
        · have := h.1; omega
      have HGG := Lib.hid (by have h := HG.out.fall 0 torn; rw [fall_none] at h; exact h)
      have HFB := Lib.hid (fall_bare F m torn)
      have HDN : Hid ((bare F).down = false) := Lib.hid rfl
      have HVF : Hid (L5.map FRow.val = (bare F).files) := Lib.hid (by rw [HV5.out, HSF.out, ← HSE.out, ← HSU.out]; rfl)
      have HV5 := HVF
      clear HVF HP HRN HSU HG
      have HMD2 := HMD
      generalize bare F = G at *
      have HNM := Lib.hid HGG.out.2
      have hcG : G.cnt ≤ 1000000 := Nat.le_trans HGG.out.1 (by omega)
      have hnl : (namesD G).length = L5.length := by unfold namesD; rw [HDN.out, ← HV5.out]; simp
      have HNL := Lib.hid hnl
      clear hnl
      go_wp2_with fail
      refine FA.out.mono ?_
      rintro e w8 ⟨rfl, hdi8, hm8⟩
      have HM8 : Hid (Mods (fun b => (w.heap.size ≤ b ∧ b < w4.heap.size)) w5 w8) := Lib.hid (HMD.out.trans hm8 fun i hi => by
        have h1 := HTW.out i hi
        have h2 := HTO.out i hi
        by_cases h3 : i < w4.heap.size
        · exact .inl ⟨h1.1, h3⟩
        · exact .inr (by omega))
      have HO8 := Lib.hid (HO5.out.of_mods HM8.out fun b hb _ hR => by have := hR.2; omega)
      have hB8 : Below w.heap.size w w8 := Below.news hBw hm8 HTW.out
      have HNG0 : Hid (∀ b, Sx T wr w8 b → News w w8 b) := Lib.hid fun b hb => by
        have := hBw.size
        rcases hb with hb | hb
        · exact ⟨(HTW.out b hb).1, Nat.lt_of_lt_of_le (HTW.out b hb).2 hm8.size⟩
        · exact ⟨by have := hb.1; omega, hb.2⟩
      have NMC := Lib.hid (diskNamesC hdi8 hcG (fun p hp => by have := nameOk_len (HNM.out.files p hp); omega))
      unfold NamesEnd at NMC
      rw [HNL.out] at NMC
      have HD8 := Lib.hid hdi8
      clear FA hdi8 hm8 HMD HMD2 HOr HTW HTO
      go_wp2_with fail
      refine NMC.out.mono ?_
      rintro e w9 ⟨A9, c9, rfl, _, hb9⟩
      have hBx := hB8.trans (hb9.mono hB8.size)
      have HDI := Lib.hid (HD8.out.below hb9)
      have HO5 := Lib.hid (HO8.out.below hb9)
      have HRIS := Lib.hid HD8.out.ris
      have HNG : Hid (∀ b, Sx T wr w8 b → ∀ wx, Below w9.heap.size w9 wx → News w wx b) := Lib.hid fun b hb wx hx => ⟨(HNG0.out b hb).1, by have := (HNG0.out b hb).2; have := hb9.size; have := hx.size; omega⟩
      clear NMC hb9 HD8 HO8 HM8 HNG0 hBw
      go_wp2_with fail
      go_loopw [15] (fun sk wr => ∃ k : Nat, k ≤ L5.length ∧ sk = .int .i64 (k : Int) ∧ Below w9.heap.size w9 wr) (fun sk _ => L5.length - (intOf sk).toNat)
      case atStart => exact ⟨0, Nat.zero_le _, rfl, Below.refl _ _⟩
      case round =>
        obtain ⟨k, hk, rfl, hB⟩ := hrel
        by_cases hlt : k < L5.length
        · have hFO := HO5.out.below hB
          obtain ⟨bf, fo, hA5, hbf, f0, f1⟩ := hFO.rd.row hlt
          have HDF := Lib.hid (hFO.dat _ (List.getElem_mem hlt)).rb
          have hmf : L5[k].val ∈ (G).files := by rw [← HV5.out]; exact List.mem_map.2 ⟨_, List.getElem_mem hlt, rfl⟩
          obtain ⟨hre, hrb⟩ := readBack HDN.out HNM.out HRIS.out hmf
          have hre : readE (G) L5[k].name = 0 := hre
          have hrb : readB (G) L5[k].name = L5[k].data := hrb
          have hno : nameOk L5[k].name = true := HNM.out.files _ hmf
          have RD := Lib.hid (diskReadC L5[k].name (HDI.out.below hB) (by have := nameOk_len hno; omega))
          unfold ReadEnd at RD
          rw [hre, hrb] at RD
          generalize L5[k].name = nm at *
          generalize L5[k].data = dat at *
          generalize L5[k].A = fA at *
          generalize L5[k].c = fc at *
          subst hA5
          have hlt1 : k + 1 ≤ L5.length := hlt
          have HF1 := Lib.hid f1
          clear hFO hmf hno hre hrb f1
          go_wp2_with fail
          refine RD.out.mono ?_
          rintro e w6 ⟨A8, c8, rfl, ho8, hb8⟩
          have hbf6 := Nat.lt_of_lt_of_le hbf hb8.size
          have hB6 := hB.trans (hb8.mono hB.size)
          have HC8 := Lib.hid ho8.rb
          have HDF6 := Lib.hid (HDF.out.below hb8)
          have HG1 := Lib.hid (hb8.cell (p := ⟨bf, fo + k * 2 + 1, none⟩) hbf |>.trans HF1.out)
          clear f0 RD HDF HF1 ho8 hb8 hB
          go_wp2_with fail
          refine wp_region_planE_gen (by kernel_rfl) [(0, none), (1, none), (2, none), (3, none), (4, none), (5, none), (6, none), (7, none), (8, none), (9, none), (10, none), (11, none), (12, none)] (by kernel_rfl) (by kernel_rfl) (by decide) ?_
          intro wq hwq
          have hbq : Below w6.heap.size w6 wq := by rw [hwq]; exact (Below.refl _ _).drew
          have f1 := hbq.cell (p := ⟨bf, fo + k * 2 + 1, none⟩) hbf6 |>.trans HG1.out
          have hBq := hB6.trans (hbq.mono hB6.size)
          have HQ8 := Lib.hid (HC8.out.below hbq)
          have HQF := Lib.hid (HDF6.out.below hbq)
          clear hwq hbq
          iterate 4 (refine planE_pure (v := ?_) rfl (by rfl) (fun w' => ?_) ?_; rotate_left; (focus (simp only [List.getElem_toArray, List.getElem_cons_succ, List.getElem_cons_zero]; go_simp; first | with_reducible rfl | (simp (disch := omega) only [if_pos, if_neg, dif_pos, Result.andThen_ok]; try with_reducible rfl) | skip)); try simp only [List.getElem_toArray, List.getElem_cons_succ, List.getElem_cons_zero, Act.put, List.setIfInBounds_toArray, List.set_cons_zero, List.set_cons_succ])
          refine planE_read (v := ?_) (fun w' => (convert 23 9 (.slice A8 dat.length c8)).run Tryd.prog w' = .ok (.string ⟨dat.toArray⟩) w') rfl (by rfl) (fun w' hw' => ?_) (convB c8 HQ8.out) ?_; rotate_left; (focus (simp only [List.getElem_toArray, List.getElem_cons_succ, List.getElem_cons_zero]; go_simp; first | with_reducible rfl | (simp (disch := omega) only [if_pos, if_neg, dif_pos, Result.andThen_ok]; try with_reducible rfl) | skip)); try simp only [List.getElem_toArray, List.getElem_cons_succ, List.getElem_cons_zero, Act.put, List.setIfInBounds_toArray, List.set_cons_zero, List.set_cons_succ]
          iterate 4 (refine planE_pure (v := ?_) rfl (by rfl) (fun w' => ?_) ?_; rotate_left; (focus (simp only [List.getElem_toArray, List.getElem_cons_succ, List.getElem_cons_zero]; go_simp; first | with_reducible rfl | (simp (disch := omega) only [if_pos, if_neg, dif_pos, Result.andThen_ok]; try with_reducible rfl) | skip)); try simp only [List.getElem_toArray, List.getElem_cons_succ, List.getElem_cons_zero, Act.put, List.setIfInBounds_toArray, List.set_cons_zero, List.set_cons_succ])
          refine planE_cells (v := ?_) [(⟨bf, fo + k * 2 + 1, none⟩, .slice fA dat.length fc)] (by simp; and_intros <;> assumption) rfl (by rfl) (fun w' hw' => ?_) ?_; rotate_left; (focus (simp only [List.forall_mem_cons, List.not_mem_nil, false_imp_iff, implies_true, and_true] at hw'; simp only [List.getElem_toArray, List.getElem_cons_succ, List.getElem_cons_zero]; go_simp; first | with_reducible rfl | (simp (disch := omega) only [if_pos, if_neg, dif_pos, Result.andThen_ok]; try with_reducible rfl) | skip)); try simp only [List.getElem_toArray, List.getElem_cons_succ, List.getElem_cons_zero, Act.put, List.setIfInBounds_toArray, List.set_cons_zero, List.set_cons_succ]
          refine planE_read (v := ?_) (fun w' => (convert 23 9 (.slice fA dat.length fc)).run Tryd.prog w' = .ok (.string ⟨dat.toArray⟩) w') rfl (by rfl) (fun w' hw' => ?_) (convB fc HQF.out) ?_; rotate_left; (focus (simp only [List.getElem_toArray, List.getElem_cons_succ, List.getElem_cons_zero]; go_simp; first | with_reducible rfl | (simp (disch := omega) only [if_pos, if_neg, dif_pos, Result.andThen_ok]; try with_reducible rfl) | skip)); try simp only [List.getElem_toArray, List.getElem_cons_succ, List.getElem_cons_zero, Act.put, List.setIfInBounds_toArray, List.set_cons_zero, List.set_cons_succ]
          iterate 2 (refine planE_pure (v := ?_) rfl (by rfl) (fun w' => ?_) ?_; rotate_left; (focus (simp only [List.getElem_toArray, List.getElem_cons_succ, List.getElem_cons_zero]; go_simp; first | with_reducible rfl | (simp (disch := omega) only [if_pos, if_neg, dif_pos, Result.andThen_ok]; try with_reducible rfl) | skip)); try simp only [List.getElem_toArray, List.getElem_cons_succ, List.getElem_cons_zero, Act.put, List.setIfInBounds_toArray, List.set_cons_zero, List.set_cons_succ])
          refine planE_end ?_
          clear f1
          go_wp2_with fail
          go_roundw
          case rel => exact ⟨k + 1, hlt1, by go_num, hBq⟩
          case measure => simp [intOf]; omega
        · obtain rfl : k = L5.length := by omega
          have FA3 := Lib.hid (diskFallC m torn (HDI.out.below hB) hcG hm64 HTORN.out)
          rw [HFB.out] at FA3
          go_wp2_with fail
          refine FA3.out.mono ?_
          rintro e wz ⟨rfl, hdz, hmz⟩
          have hBz := Below.news (hBx.trans (hB.mono hBx.size)) hmz fun b hb => HNG.out b hb wr hB
          have NMC := Lib.hid (diskNamesC hdz hcG (fun p hp => by have := nameOk_len (HNM.out.files p hp); omega))
          have hnl : (namesD G).length = L5.length := by unfold namesD; rw [HDN.out, ← HV5.out]; simp
          unfold NamesEnd at NMC
          rw [hnl] at NMC
          clear hnl FA3 hdz hmz
          go_wp2_with fail
          refine NMC.out.mono ?_
          rintro e w7 ⟨A9, c9, rfl, _, hb9⟩
          have hBy := hBz.trans (hb9.mono hBz.size)
          clear hb9 hB hBz NMC
          go_wp2_with fail
          go_ret
          exact ⟨rfl, hBy⟩
end Go.Proofs.YthdmnajcphaekaaDoor
