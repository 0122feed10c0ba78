/- The walk of DiskActs. -/
import Derived.Test.YthdmnajcphaekaaDoorGrown
namespace Go.Proofs.YthdmnajcphaekaaDoor
open Go.RowKit

set_option maxRecDepth 20000 in
set_option maxHeartbeats 8000000 in
theorem walkDiskActs (room : Int) (X : Option Addr) (c : Nat) (L0 : List (List Fv)) (w : World) (hroom : I64 room) (hX : RS w X 5 (L0.map (·.map Fv.val))) (hL : L0.length ≤ 9223372036854775807) (hR : ∀ r ∈ L0, rowOk w actK r) :
    Calls Tryd.prog 6 #[.int .i64 room, .slice X L0.length c] w fun e w' => e = .returned (.bool true) ∧ Below w.heap.size w w' := by
  obtain ⟨L, hL', hacts⟩ := acts_of hX hR
  rw [← hL'] at hL ⊢
  have HA := Lib.hid hacts
  have BG := Lib.hid (lawBegin room w)
  clear hX hR hL' hacts
  go_enter Tryd.func6, Tryd.ntmps6
  go_wp2_with fail
  refine BG.out.mono ?_
  rintro e w1 ⟨d, g, T, M, S, D, rfl, hp, hn, hgd, hb1⟩
  have HP := Lib.hid hp
  have HN := Lib.hid hn
  have HG := Lib.hid hgd
  clear BG hp hn hgd
  go_wp2_with fail
  refine (lawAnswers _).mono ?_
  rintro e w2 ⟨rfl, hb2⟩
  have hb := hb1.trans (hb2.mono hb1.size)
  have HP := Lib.hid (HP.out.below hb2)
  have HN : Hid (∀ b, T b ∨ M b ∨ S b → News w w2 b) := Lib.hid fun b hb => ⟨(HN.out b hb).1, Nat.lt_of_lt_of_le (HN.out b hb).2 hb2.size⟩
  clear hb1 hb2
  go_wp2_with fail
  go_loopw [5, 7] (fun s5 s7 wr => ∃ (k d : Nat) (T M S : Nat → Prop) (D : DSt), k ≤ L.length ∧ k ≤ 200 ∧ s5 = .pointer (some ⟨d, 0, none⟩) ∧ s7 = .int .i64 (k : Int) ∧ Hid (Pair T M S wr d D g D) ∧ Hid (∀ b, T b ∨ M b ∨ S b → News w wr b) ∧ Hid (D.good k) ∧ Below w.heap.size w wr) (fun _ s7 _ => L.length - (intOf s7).toNat)
  case atStart => exact ⟨0, d, T, M, S, D, Nat.zero_le _, by omega, rfl, rfl, HP, HN, HG, hb⟩
  case round =>
    clear HP HN HG hb
    obtain ⟨k, d, T, M, S, D, hk, hk2, rfl, rfl, HP, HN, HG, hB⟩ := hrel
    by_cases hlt : k < L.length
    · by_cases hlt2 : k < 200
      · obtain ⟨b, off, rfl, hbl, a0, a1, a2, a3, a4⟩ := (HA.out.below hB).row hlt
        have HOK := Lib.hid ((HA.out.2 _ (List.getElem_mem hlt)).below hB)
        have HCL : Hid (0 < L[k].data.length → ∀ b, L[k].A.map (·.block) = some b → b < w.heap.size) := Lib.hid fun h0 b hb => RB.lt ((HA.out.2 _ (List.getElem_mem hlt)).rb) h0 b hb
        generalize L[k] = a at *
        obtain ⟨kind, name, n, A, ca, data, mask⟩ := a
        simp only at a0 a1 a2 a3 a4 HCL
        have hlt1 : k + 1 ≤ L.length := hlt
        have hlt3 : k + 1 ≤ 200 := hlt2
        have hA0 := Lib.hid a0
        have hA1 := Lib.hid a1
        have hA2 := Lib.hid a2
        have hA3 := Lib.hid a3
        have hA4 := Lib.hid a4
        clear a1 a2 a3 a4
        have hcnt : D.cnt ≤ 1000000 := Nat.le_trans HG.out.1 (by omega)
        have HNM := Lib.hid HG.out.2
        -- the act and the look, from any world behind
        have STEP : Hid (∀ (w2 : World) (d2 : Nat) (T2 : Nat → Prop), Pair T2 M S w2 d2 D g D → (∀ b, T2 b ∨ M b ∨ S b → News w w2 b) → Below wr.heap.size wr w2 →
            Calls Tryd.prog 22 #[.pointer (some ⟨d2, 0, none⟩), .pointer (some ⟨g, 0, none⟩), .agg #[.int .i64 kind, .string ⟨name.toArray⟩, .int .i64 n, .slice A data.length ca, .int .u64 (mask : Int)]] w2 fun e w' => e = .returned (.bool true) ∧
              ∃ (T3 M3 S3 : Nat → Prop) (E : DSt), Pair T3 M3 S3 w' d2 E g E ∧ (∀ b, T3 b ∨ M3 b ∨ S3 b → News w w' b) ∧ E.good (k + 1) ∧ Below w.heap.size w w') := Lib.hid fun w2 d2 T2 hp hn hb2 => by
          refine (lawAct kind name n data A ca mask hp (HOK.out.rb.below hb2) (fun h0 b hb => ⟨fun hT => by have := (hn b (.inl hT)).1; have := HCL.out h0 b hb; omega, fun hT => by have := (hn b (.inr (.inl hT))).1; have := HCL.out h0 b hb; omega⟩) hcnt hcnt HOK.out.name HOK.out.n HOK.out.len HOK.out.mask).mono ?_
          rintro e w3 ⟨bb, rfl, hbb, hp3⟩
          obtain ⟨T', M', S', hp', hn', hB3⟩ := hp3.old hn (hB.trans (hb2.mono hB.size))
          rw [hbb.out rfl]
          exact ⟨rfl, T', M', S', _, hp', hn', HG.out.act kind name n data mask, hB3⟩
        by_cases h9 : kind = 9
        · subst h9
          have SM := Lib.hid (fun w' => lawSmall ⟨9, name, n, A, ca, data, mask⟩ w')
          have hsm : AF.small ⟨9, name, n, A, ca, data, mask⟩ = true := by unfold AF.small; simp
          rw [hsm] at SM
          have CP := Lib.hid (diskCopyC HP.out.di hcnt)
          clear hsm
          go_wp2_with fail
          refine CP.out.mono ?_
          rintro e w2 ⟨d2, rfl, hdi, hb2⟩
          have HP2 := Lib.hid (HP.out.copied hdi hb2)
          have hs2 := hB.size
          have HN2 : Hid (∀ b, News wr w2 b ∨ M b ∨ S b → News w w2 b) := Lib.hid fun b hb => by
            rcases hb with hb | hb
            · exact ⟨by have := hb.1; omega, hb.2⟩
            · exact ⟨(HN.out b (.inr hb)).1, Nat.lt_of_lt_of_le (HN.out b (.inr hb)).2 hb2.size⟩
          have hbl2 := hb2
          have c0 := (hb2.cell (p := ⟨b, off + k * 5, none⟩) hbl).trans hA0.out
          have c1 := (hb2.cell (p := ⟨b, off + k * 5 + 1, none⟩) hbl).trans hA1.out
          have c2 := (hb2.cell (p := ⟨b, off + k * 5 + 2, none⟩) hbl).trans hA2.out
          have c3 := (hb2.cell (p := ⟨b, off + k * 5 + 3, none⟩) hbl).trans hA3.out
          have c4 := (hb2.cell (p := ⟨b, off + k * 5 + 4, none⟩) hbl).trans hA4.out
          clear CP hdi a0 hs2
          go_wp2_with fail
          refine (SM.out _).mono ?_
          rintro e w3 ⟨rfl, hb3⟩
          have hbw := hb2.trans (hb3.mono hb2.size)
          have HP2 := Lib.hid (HP2.out.below hb3)
          have HN2 : Hid (∀ b, News wr w2 b ∨ M b ∨ S b → News w w3 b) := Lib.hid fun b hb => ⟨(HN2.out b hb).1, Nat.lt_of_lt_of_le (HN2.out b hb).2 hb3.size⟩
          clear c0 c1 c2 c3 c4
          have c0 := (hbw.cell (p := ⟨b, off + k * 5, none⟩) hbl).trans hA0.out
          have c1 := (hbw.cell (p := ⟨b, off + k * 5 + 1, none⟩) hbl).trans hA1.out
          have c2 := (hbw.cell (p := ⟨b, off + k * 5 + 2, none⟩) hbl).trans hA2.out
          have c3 := (hbw.cell (p := ⟨b, off + k * 5 + 3, none⟩) hbl).trans hA3.out
          have c4 := (hbw.cell (p := ⟨b, off + k * 5 + 4, none⟩) hbl).trans hA4.out
          clear SM hb2 hb3 hbl2 HP HN HG hB
          go_wp2_with fail
          refine (STEP.out _ _ _ HP2.out HN2.out hbw).mono ?_
          rintro e w4 ⟨rfl, T3, M3, S3, E, hp4, hn4, hg4, hB4⟩
          have HP4 := Lib.hid hp4
          have HN4 := Lib.hid hn4
          have HG4 := Lib.hid hg4
          have AL := Lib.hid (lawAlike hp4 (Nat.le_trans hg4.1 (by omega)) hg4.2)
          clear hp4 hn4 hg4 STEP c0 c1 c2 c3 c4 HP2 HN2 hbw
          go_wp2_with fail
          refine AL.out.mono ?_
          rintro e w5 ⟨rfl, hb5⟩
          have hB5 := hB4.trans (hb5.mono hB4.size)
          have HP5 := Lib.hid (HP4.out.below hb5)
          have HN5 : Hid (∀ b, T3 b ∨ M3 b ∨ S3 b → News w w5 b) := Lib.hid fun b hb => ⟨(HN4.out b hb).1, Nat.lt_of_lt_of_le (HN4.out b hb).2 hb5.size⟩
          clear HP4 HN4 AL hb5 hB4
          go_wp2_with fail
          go_roundw
          case rel => exact ⟨k + 1, d2, T3, M3, S3, E, hlt1, hlt3, rfl, by go_num, HP5, HN5, HG4, hB5⟩
          case measure => simp [intOf]; omega
        · have SM := Lib.hid (fun w' => lawSmall ⟨kind, name, n, A, ca, data, mask⟩ w')
          have a1 := hA1.out
          have a2 := hA2.out
          have a3 := hA3.out
          have a4 := hA4.out
          go_wp2_with fail
          refine (SM.out _).mono ?_
          rintro e w3 ⟨rfl, hbw⟩
          have HP2 := Lib.hid (HP.out.below hbw)
          have HN2 : Hid (∀ b, T b ∨ M b ∨ S b → News w w3 b) := Lib.hid fun b hb => ⟨(HN.out b hb).1, Nat.lt_of_lt_of_le (HN.out b hb).2 hbw.size⟩
          have hB3 := hB.trans (hbw.mono hB.size)
          have HGm := Lib.hid (HG.out.mono (Nat.le_succ k))
          clear a0 a1 a2 a3 a4 SM
          cases hsm : AF.small ⟨kind, name, n, A, ca, data, mask⟩
          · clear STEP hsm
            go_wp2_with fail
            go_roundw
            case rel => exact ⟨k + 1, d, T, M, S, D, hlt1, hlt3, rfl, by go_num, HP2, HN2, HGm, hB3⟩
            case measure => simp [intOf]; omega
          · clear hsm
            have c0 := (hbw.cell (p := ⟨b, off + k * 5, none⟩) hbl).trans hA0.out
            have c1 := (hbw.cell (p := ⟨b, off + k * 5 + 1, none⟩) hbl).trans hA1.out
            have c2 := (hbw.cell (p := ⟨b, off + k * 5 + 2, none⟩) hbl).trans hA2.out
            have c3 := (hbw.cell (p := ⟨b, off + k * 5 + 3, none⟩) hbl).trans hA3.out
            have c4 := (hbw.cell (p := ⟨b, off + k * 5 + 4, none⟩) hbl).trans hA4.out
            clear HP HN HG hB hB3 HGm
            go_wp2_with fail
            refine (STEP.out _ _ _ HP2.out HN2.out hbw).mono ?_
            rintro e w4 ⟨rfl, T3, M3, S3, E, hp4, hn4, hg4, hB4⟩
            have HP4 := Lib.hid hp4
            have HN4 := Lib.hid hn4
            have HG4 := Lib.hid hg4
            have AL := Lib.hid (lawAlike hp4 (Nat.le_trans hg4.1 (by omega)) hg4.2)
            clear hp4 hn4 hg4 STEP c0 c1 c2 c3 c4 HP2 HN2 hbw
            go_wp2_with fail
            refine AL.out.mono ?_
            rintro e w5 ⟨rfl, hb5⟩
            have hB5 := hB4.trans (hb5.mono hB4.size)
            have HP5 := Lib.hid (HP4.out.below hb5)
            have HN5 : Hid (∀ b, T3 b ∨ M3 b ∨ S3 b → News w w5 b) := Lib.hid fun b hb => ⟨(HN4.out b hb).1, Nat.lt_of_lt_of_le (HN4.out b hb).2 hb5.size⟩
            clear HP4 HN4 AL hb5 hB4
            go_wp2_with fail
            go_roundw
            case rel => exact ⟨k + 1, d, T3, M3, S3, E, hlt1, hlt3, rfl, by go_num, HP5, HN5, HG4, hB5⟩
            case measure => simp [intOf]; omega
      · clear HP HN HG
        by_cases hbad : room < 0 ∨ 4194304 < room
        · have NB := Lib.hid (fun w' => diskNew_bad room w' hbad)
          rcases hbad with hbad | hbad
          all_goals
            go_wp2_with fail
            refine (NB.out _).mono ?_
            rintro e w6 ⟨rfl, rfl⟩
            go_wp2_with fail
            go_ret
            exact ⟨by first | rfl | exact congrArg (fun b => Ending.returned (.bool (!b))) (decide_eq_false (p := room ≤ 4194304) (by omega)), hB⟩
        · have h0 : 0 ≤ room := by omega
          have h1 : room ≤ 4194304 := by omega
          have NB := Lib.hid (fun w' => diskNew room w' h0 h1)
          clear hbad
          go_wp2_with fail
          refine (NB.out _).mono ?_
          rintro e w6 ⟨d6, rfl, _, hb6⟩
          have hB6 := hB.trans (hb6.mono hB.size)
          clear hb6 hB NB
          go_wp2_with fail
          go_ret
          exact ⟨rfl, hB6⟩
    · clear HP HN HG
      by_cases hbad : room < 0 ∨ 4194304 < room
      · have NB := Lib.hid (fun w' => diskNew_bad room w' hbad)
        rcases hbad with hbad | hbad
        all_goals
          go_wp2_with fail
          refine (NB.out _).mono ?_
          rintro e w6 ⟨rfl, rfl⟩
          go_wp2_with fail
          go_ret
          exact ⟨by first | rfl | exact congrArg (fun b => Ending.returned (.bool (!b))) (decide_eq_false (p := room ≤ 4194304) (by omega)), hB⟩
      · have h0 : 0 ≤ room := by omega
        have h1 : room ≤ 4194304 := by omega
        have NB := Lib.hid (fun w' => diskNew room w' h0 h1)
        clear hbad
        go_wp2_with fail
        refine (NB.out _).mono ?_
        rintro e w6 ⟨d6, rfl, _, hb6⟩
        have hB6 := hB.trans (hb6.mono hB.size)
        clear hb6 hB NB
        go_wp2_with fail
        go_ret
        exact ⟨rfl, hB6⟩
end Go.Proofs.YthdmnajcphaekaaDoor
