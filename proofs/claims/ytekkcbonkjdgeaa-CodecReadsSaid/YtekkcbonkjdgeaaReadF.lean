/- Contract of the reference's Unframe. -/
import Derived.Test.YtekkcbonkjdgeaaReadE
namespace Go.Proofs.Ytekkcbonkjdgeaa
open Go.RowKit

theorem take8 {d : List UInt8} : (frameB d).take 8 = fourB d.length ++ fourB (crc (fourB d.length ++ d)) := by
  rw [frameB, List.take_append_of_le_length (by simp [fourB])]
  rw [List.take_of_length_le (by simp [fourB])]
theorem drop8 {d : List UInt8} : (frameB d).drop 8 = d := by
  rw [frameB, List.drop_append_of_le_length (by simp [fourB]), List.drop_of_length_le (by simp [fourB])]; simp
theorem fourB_eq (n : Nat) : fourB n = four4 n := rfl
theorem unB_4 {l : List UInt8} (h : l.length = 4) : unB l < 4294967296 := Nat.lt_of_lt_of_le (unB_lt _) (by rw [h]; decide)
/-- Do the eight bytes ahead of the data fit? -/
theorem head_fits {b : List UInt8} {a : Nat} (h8 : a + 8 ≤ b.length) (d : List UInt8) (hd : d.length = unB ((b.drop a).take 4)) :
    (frameB d).take 8 = (b.drop a).take 8 ↔ crc ((b.drop a).take 4 ++ d) = unB ((b.drop (a + 4)).take 4) := by
  have h4 : ((b.drop a).take 4).length = 4 := by rw [List.length_take, List.length_drop]; omega
  have h44 : ((b.drop (a + 4)).take 4).length = 4 := by rw [List.length_take, List.length_drop]; omega
  have e0 : (b.drop a).take 8 = (b.drop a).take 4 ++ (b.drop (a + 4)).take 4 := by
    rw [show (8 : Nat) = 4 + 4 from rfl, List.take_add, List.drop_drop]
  have e1 : fourB d.length = (b.drop a).take 4 := by rw [fourB_eq, hd, four_un h4]
  rw [take8, e0, e1]
  have hcl := crc_le ((b.drop a).take 4 ++ d)
  constructor
  · intro h
    have h2 := List.append_cancel_left h
    rw [← h2, fourB_eq, un_four (by omega)]
  · intro h
    rw [h, fourB_eq, four_un h44]
theorem frame_get (d : List UInt8) (j : Nat) (hj : j < 8) : j < (frameB d).length := by rw [frameB_len]; omega
theorem prefix_ne {l m : List UInt8} {n : Nat} (hl : n ≤ l.length) (hm : n ≤ m.length) (h : l.take n ≠ m.take n) : ∃ j, ∃ (h1 : j < n), l[j] ≠ m[j] ∧ ∀ k, (hk : k < j) → l[k] = m[k] := by
  induction n with
  | zero => exact absurd rfl h
  | succ n ih =>
    by_cases he : l.take n = m.take n
    · refine ⟨n, by omega, fun hh => h ?_, fun k hk => ?_⟩
      · rw [List.take_succ_eq_append_getElem (by omega), List.take_succ_eq_append_getElem (by omega), he, hh]
      · have := congrArg (fun q => q[k]?) he
        simp only [List.getElem?_take, if_pos hk] at this
        rw [List.getElem?_eq_getElem (by omega), List.getElem?_eq_getElem (by omega)] at this
        injection this
    · obtain ⟨j, h1, h2, h3⟩ := ih (by omega) (by omega) he
      exact ⟨j, by omega, h2, h3⟩
theorem prefix_eq {l m : List UInt8} {n : Nat} (hl : n ≤ l.length) (hm : n ≤ m.length) (h : l.take n = m.take n) (j : Nat) (hj : j < n) : l[j] = m[j] := by
  have := congrArg (fun q => q[j]?) h
  simp only [List.getElem?_take, if_pos hj] at this
  rw [List.getElem?_eq_getElem (by omega), List.getElem?_eq_getElem (by omega)] at this
  injection this

theorem datE_n {L n : Nat} {p : List UInt8 × Int × Int} {k : List UInt8} {A : Option Addr} {c : Nat} {x y : Int} {w w' : World} (h : p = (k, x, y)) (hn : k.length = n) (hl : n ≤ L) (hr : RB w' A k) (hb : Below w.heap.size w w') : DatE L p w (.returned (.tuple #[.slice A n c, .int .i64 x, .int .i64 y])) w' := by
  subst hn; exact datE_yes h hl hr hb
theorem refFrame' (A : Option Addr) (c n : Nat) (d : List UInt8) (hn : d.length = n) (w : World) (h : RB w A d) (hl : n ≤ 65536) :
    Calls Try.prog 21 #[.slice A n c] w (NewBE w (frameB d) 0) := by
  subst hn; exact refFrame A c d w h hl

set_option maxRecDepth 20000 in
set_option maxHeartbeats 8000000 in
theorem refUnframe (A : Option Addr) (c : Nat) (b : List UInt8) (i : Int) (w : World) (h : RB w A b) (hc : b.length ≤ c) (hm : c ≤ 9223372036854775807) (hl : b.length ≤ 140737488355328) (hi : -9223372036854775808 ≤ i ∧ i ≤ 9223372036854775807) :
    Calls Try.prog 42 #[.slice A b.length c, .int .i64 i] w (DatE b.length (unfrAt b i) w) := by
  obtain ⟨hi0, hi1⟩ := hi
  by_cases hneg : i < 0
  · have HP := Lib.hid (unfr_out (b := b) (i := i) (by omega))
    go_enter Try.func42, Try.ntmps42
    go_wp2_with fail
    go_ret3
    exact datE_no HP.out (Below.refl _ _)
  · obtain ⟨a, rfl⟩ := Int.eq_ofNat_of_zero_le (show 0 ≤ i by omega)
    by_cases hout : b.length < a
    · have HP := Lib.hid (unfr_out (b := b) (i := (a : Int)) (by omega))
      go_enter Try.func42, Try.ntmps42
      go_wp2_with fail
      go_ret3
      exact datE_no HP.out (Below.refl _ _)
    · by_cases h8 : b.length < a + 8
      · have HP := Lib.hid (unfr_8 (show a ≤ b.length by omega) h8)
        go_enter Try.func42, Try.ntmps42
        go_wp2_with fail
        go_ret3
        exact datE_no HP.out (Below.refl _ _)
      · have h8' : a + 8 ≤ b.length := by omega
        have hac : a < c := by omega
        obtain ⟨bb, off, rfl, hbb, hcell⟩ := h.at_ (by omega)
        have HC := Lib.hid (fun j (hj : a + j < b.length) => hcell (a + j) _ (List.getElem?_eq_getElem hj))
        have hl0 : ((b.drop a).take 4).length = 4 := by rw [List.length_take, List.length_drop]; omega
        have hn32 : unB ((b.drop a).take 4) < 4294967296 := unB_4 hl0
        have HT : Hid (∀ j, j < 4 → ∃ hb : a + j < b.length, unB (((b.drop a).take 4).take (j + 1)) = unB (((b.drop a).take 4).take j) * 256 + b[a + j].toNat) := Lib.hid (fun j hj => ⟨by omega, by
          rw [List.take_take, List.take_take, Nat.min_eq_left (by omega), Nat.min_eq_left (by omega), take_getD _ _ _ (by omega), unB_snoc]⟩)
        have HU3 : Hid (∀ j, j < 4 → unB (((b.drop a).take 4).take j) < 16777216) := Lib.hid (fun j hj => by
          have h1 := unB_lt (((b.drop a).take 4).take j)
          have h2 : (256 : Nat) ^ (((b.drop a).take 4).take j).length ≤ 256 ^ 3 := Nat.pow_le_pow_right (by omega) (by rw [List.length_take]; omega)
          omega)
        have HF : Hid (∀ d : List UInt8, d.length = unB ((b.drop a).take 4) → ((frameB d).take 8 = (b.drop a).take 8 ↔ crc ((b.drop a).take 4 ++ d) = unB ((b.drop (a + 4)).take 4))) := Lib.hid (fun d hd => head_fits h8' d hd)
        have hdl : ∀ n, a + 8 + n ≤ b.length → ((b.drop (a + 8)).take n).length = n := fun n hn => by rw [List.length_take, List.length_drop]; omega
        have hpd := fun n => h.partR (a + 8) n
        have HL := Lib.hid (unfr_large h8')
        have HS := Lib.hid (unfr_short h8')
        have HX := Lib.hid (unfr_sum h8')
        have HY := Lib.hid (unfr_yes h8')
        have HNN : Hid (unB (((b.drop a).take 4).take 4) = unB ((b.drop a).take 4)) := Lib.hid (by rw [List.take_take]; rfl)
        clear hcell
        generalize hq0 : (b.drop a).take 4 = q0 at *
        clear hq0
        have HDL := Lib.hid hdl
        have HPD := Lib.hid hpd
        clear hdl hpd
        go_enter Try.func42, Try.ntmps42
        go_wp2_with fail
        go_loop [7, 8] (fun v i => ∃ j : Nat, j ≤ 4 ∧ i = .int .i64 (j : Int) ∧ v = .int .i64 (unB (q0.take j) : Nat)) (fun _ i => 4 - (intOf i).toNat)
        case atStart => exact ⟨0, Nat.zero_le _, rfl, rfl⟩
        case round =>
          obtain ⟨j, hj, rfl, rfl⟩ := hrel
          by_cases hlt : j < 4
          · obtain ⟨hb2, HN1⟩ := HT.out j hlt
            have hy := HC.out j hb2
            have hn3 := HU3.out j hlt
            obtain ⟨z, hz⟩ : ∃ z, z = b[a + j].toNat := ⟨_, rfl⟩
            have hz8 : z < 256 := by rw [hz]; exact UInt8.toNat_lt _
            rw [← hz] at hy HN1
            have HN2 := Lib.hid HN1
            generalize unB (q0.take j) = n at *
            clear hz HN1
            go_wp2_with fail
            go_round
            case rel => exact ⟨j + 1, by omega, by go_num, by rw [HN2.out]; go_num⟩
            case measure => simp [intOf]; omega
          · obtain rfl : j = 4 := by omega
            rw [HNN.out]
            generalize unB q0 = n at *
            generalize unB ((b.drop (a + 4)).take 4) = t at *
            by_cases hbig : 65536 < n
            · have HP := Lib.hid (HL.out hbig)
              go_wp2_with fail
              go_ret3
              exact datE_no HP.out (Below.refl _ _)
            · by_cases hs : b.length < a + 8 + n
              · have HP := Lib.hid (HS.out hbig hs)
                go_wp2_with fail
                go_ret3
                exact datE_no HP.out (Below.refl _ _)
              · have HP := Lib.hid (HX.out hbig hs)
                have HP1 := Lib.hid (HY.out hbig hs)
                have hdn := HDL.out n (by omega)
                have hpn := HPD.out n
                have HFD := Lib.hid (HF.out _ hdn)
                generalize hqd : (b.drop (a + 8)).take n = qd at *
                clear hqd
                have hfl := frameB_len qd
                have FIN : Hid (∀ (w5 : World) (K : List UInt8) (A5 : Option Addr) (c5 : Nat), K = frameB qd → OB w5 w.heap.size A5 c5 K → Below w.heap.size w w5 → True) := Lib.hid (fun _ _ _ _ _ _ _ => trivial)
                clear FIN HL HS HX HY HF HDL HPD HT HU3 HNN hl0 hn32
                by_cases hcap : a + 8 < c
                · have C := Lib.hid (fun c' => refFrame' _ c' n qd hdn w hpn (by omega))
                  go_wp2_with fail
                  refine (C.out _).mono ?_
                  rintro e w5 ⟨K, A5, c5, hK, hK1, hK2, rfl, ho5, hb5⟩
                  rw [hfl] at hK1 hK2
                  have hcap5 := ho5.cap
                  obtain ⟨g, o5, rfl, hg5, hcell5⟩ := ho5.rb.at_ (by omega)
                  have H5 := Lib.hid (fun j (hj : j < K.length) => hcell5 j _ (List.getElem?_eq_getElem hj))
                  have HR5 := Lib.hid ho5.rb
                  have HB5 := Lib.hid hb5
                  have HC5 : Hid (∀ j (hj : a + j < b.length), w5.cell? ⟨bb, off + (a + j), none⟩ = some (.int .u8 (b[a + j].toNat : Int))) := Lib.hid (fun j hj => (hb5.cell (p := ⟨bb, _, none⟩) hbb).trans (HC.out j hj))
                  clear hcell5 ho5 hb5 hfl hpn C
                  go_wp2_with fail
                  go_loopw [11] (fun i wr => ∃ (j m : Nat), j ≤ 8 ∧ i = .int .i64 (j : Int) ∧ wr = w5.drewN m ∧ Hid (∀ (k : Nat) (_ : k < j) (h1 : k < K.length) (h2 : a + k < b.length), K[k] = b[a + k])) (fun i _ => 8 - (intOf i).toNat)
                  case atStart => exact ⟨0, 0, Nat.zero_le _, rfl, rfl, Lib.hid (fun k hk => absurd hk (Nat.not_lt_zero k))⟩
                  case round =>
                    obtain ⟨j, m, hj, rfl, rfl, hall⟩ := hrel
                    by_cases hlt : j < 8
                    · have hjK : j < K.length := by omega
                      have hjb : a + j < b.length := by omega
                      have y1 := H5.out j hjK
                      have y2 := HC5.out j hjb
                      by_cases heq : K[j] = b[a + j]
                      · have HA : Hid (∀ (k : Nat) (_ : k < j + 1) (h1 : k < K.length) (h2 : a + k < b.length), K[k] = b[a + k]) := Lib.hid (fun k hk h1 h2 => by
                          by_cases hkj : k < j
                          · exact hall.out k hkj h1 h2
                          · obtain rfl : k = j := by omega
                            exact heq)
                        rw [heq] at y1
                        clear heq hall
                        generalize b[a + j].toNat = z at *
                        go_wp2_with fail
                        go_quiet (fail)
                        go_wp2_with fail
                        go_roundw
                        case rel => exact ⟨j + 1, _, by omega, by go_num, rfl, HA⟩
                        case measure => simp [intOf]; omega
                      · have HQ : Hid (unfrAt b a = ([], 0, 6)) := Lib.hid (HP.out fun he => heq (by
                          have h1 := HFD.out.2 he
                          have h2 := prefix_eq (n := 8) (by rw [frameB_len]; omega) (by rw [List.length_drop]; omega) h1 j hlt
                          rw [List.getElem_drop] at h2
                          rw [← h2]
                          congr 1 <;> exact hK.out))
                        have hne : (((K[j].toNat : Int)) != ((b[a + j].toNat : Nat) : Int)) = true := by
                          rw [bne_iff_ne]
                          intro e
                          exact heq (UInt8.toNat_inj.1 (by omega))
                        clear heq hall
                        generalize b[a + j].toNat = z at *
                        generalize K[j].toNat = z2 at *
                        go_wp2_with fail
                        go_quiet (fail)
                        go_wp2_with fail
                        go_ret3
                        exact datE_no HQ.out (belowDrewN (belowDrewN HB5.out _) _)
                    · obtain rfl : j = 8 := by omega
                      have HQ : Hid (unfrAt b a = (qd, (a : Int) + 8 + (n : Int), 0)) := Lib.hid (HP1.out (HFD.out.1 (by
                        apply List.ext_getElem?
                        intro k
                        by_cases hk : k < 8
                        · rw [List.getElem?_take, if_pos hk, List.getElem?_take, if_pos hk, List.getElem?_drop, List.getElem?_eq_getElem (l := frameB qd) (by rw [frameB_len]; omega), List.getElem?_eq_getElem (l := b) (by omega)]
                          have h3 := hall.out k hk (by omega) (by omega)
                          rw [← h3]
                          simp [hK.out]
                        · rw [List.getElem?_take, if_neg hk, List.getElem?_take, if_neg hk])))
                      have HD : Hid (K.drop 8 = qd) := Lib.hid (by rw [hK.out, drop8])
                      clear hall
                      by_cases hc8 : 8 < c5
                      · have HR := Lib.hid (HR5.out.partR 8 (K.length - 8))
                        go_wp2_with fail
                        go_ret3
                        exact datE_n (k := qd) HQ.out (by omega) (by omega) (by rw [← HD.out]; have h9 := HR.out; rw [List.take_of_length_le (by rw [List.length_drop]; omega)] at h9; exact h9.drewN m) (belowDrewN HB5.out _)
                      · have hc8' : c5 = 8 := by omega
                        subst hc8'
                        go_wp2_with fail
                        go_ret3
                        exact datE_n (k := qd) HQ.out (by omega) (by omega) (by rw [List.eq_nil_of_length_eq_zero (show qd.length = 0 by omega)]; exact RB.nil) (belowDrewN HB5.out _)
                · have hca : c - (a + 8) = 0 := by omega
                  have hn0 : n = 0 := by omega
                  subst hn0
                  have hq0 := List.eq_nil_of_length_eq_zero hdn
                  have C := Lib.hid (fun A' c' => refFrame' A' c' 0 qd hdn w (by rw [hq0]; exact RB.nil) (by omega))
                  clear hq0
                  go_wp2_with fail
                  refine (C.out _ _).mono ?_
                  rintro e w5 ⟨K, A5, c5, hK, hK1, hK2, rfl, ho5, hb5⟩
                  rw [hfl] at hK1 hK2
                  have hcap5 := ho5.cap
                  obtain ⟨g, o5, rfl, hg5, hcell5⟩ := ho5.rb.at_ (by omega)
                  have H5 := Lib.hid (fun j (hj : j < K.length) => hcell5 j _ (List.getElem?_eq_getElem hj))
                  have HR5 := Lib.hid ho5.rb
                  have HB5 := Lib.hid hb5
                  have HC5 : Hid (∀ j (hj : a + j < b.length), w5.cell? ⟨bb, off + (a + j), none⟩ = some (.int .u8 (b[a + j].toNat : Int))) := Lib.hid (fun j hj => (hb5.cell (p := ⟨bb, _, none⟩) hbb).trans (HC.out j hj))
                  clear hcell5 ho5 hb5 hfl hpn C
                  go_wp2_with fail
                  go_loopw [11] (fun i wr => ∃ (j m : Nat), j ≤ 8 ∧ i = .int .i64 (j : Int) ∧ wr = w5.drewN m ∧ Hid (∀ (k : Nat) (_ : k < j) (h1 : k < K.length) (h2 : a + k < b.length), K[k] = b[a + k])) (fun i _ => 8 - (intOf i).toNat)
                  case atStart => exact ⟨0, 0, Nat.zero_le _, rfl, rfl, Lib.hid (fun k hk => absurd hk (Nat.not_lt_zero k))⟩
                  case round =>
                    obtain ⟨j, m, hj, rfl, rfl, hall⟩ := hrel
                    by_cases hlt : j < 8
                    · have hjK : j < K.length := by omega
                      have hjb : a + j < b.length := by omega
                      have y1 := H5.out j hjK
                      have y2 := HC5.out j hjb
                      by_cases heq : K[j] = b[a + j]
                      · have HA : Hid (∀ (k : Nat) (_ : k < j + 1) (h1 : k < K.length) (h2 : a + k < b.length), K[k] = b[a + k]) := Lib.hid (fun k hk h1 h2 => by
                          by_cases hkj : k < j
                          · exact hall.out k hkj h1 h2
                          · obtain rfl : k = j := by omega
                            exact heq)
                        rw [heq] at y1
                        clear heq hall
                        generalize b[a + j].toNat = z at *
                        go_wp2_with fail
                        go_quiet (fail)
                        go_wp2_with fail
                        go_roundw
                        case rel => exact ⟨j + 1, _, by omega, by go_num, rfl, HA⟩
                        case measure => simp [intOf]; omega
                      · have HQ : Hid (unfrAt b a = ([], 0, 6)) := Lib.hid (HP.out fun he => heq (by
                          have h1 := HFD.out.2 he
                          have h2 := prefix_eq (n := 8) (by rw [frameB_len]; omega) (by rw [List.length_drop]; omega) h1 j hlt
                          rw [List.getElem_drop] at h2
                          rw [← h2]
                          congr 1 <;> exact hK.out))
                        have hne : (((K[j].toNat : Int)) != ((b[a + j].toNat : Nat) : Int)) = true := by
                          rw [bne_iff_ne]
                          intro e
                          exact heq (UInt8.toNat_inj.1 (by omega))
                        clear heq hall
                        generalize b[a + j].toNat = z at *
                        generalize K[j].toNat = z2 at *
                        go_wp2_with fail
                        go_quiet (fail)
                        go_wp2_with fail
                        go_ret3
                        exact datE_no HQ.out (belowDrewN (belowDrewN HB5.out _) _)
                    · obtain rfl : j = 8 := by omega
                      have HQ : Hid (unfrAt b a = (qd, (a : Int) + 8 + ((0 : Nat) : Int), 0)) := Lib.hid (HP1.out (HFD.out.1 (by
                        apply List.ext_getElem?
                        intro k
                        by_cases hk : k < 8
                        · rw [List.getElem?_take, if_pos hk, List.getElem?_take, if_pos hk, List.getElem?_drop, List.getElem?_eq_getElem (l := frameB qd) (by rw [frameB_len]; omega), List.getElem?_eq_getElem (l := b) (by omega)]
                          have h3 := hall.out k hk (by omega) (by omega)
                          rw [← h3]
                          simp [hK.out]
                        · rw [List.getElem?_take, if_neg hk, List.getElem?_take, if_neg hk])))
                      have HD : Hid (K.drop 8 = qd) := Lib.hid (by rw [hK.out, drop8])
                      clear hall
                      by_cases hc8 : 8 < c5
                      · have HR := Lib.hid (HR5.out.partR 8 (K.length - 8))
                        go_wp2_with fail
                        go_ret3
                        exact datE_n (k := qd) HQ.out (by omega) (by omega) (by rw [← HD.out]; have h9 := HR.out; rw [List.take_of_length_le (by rw [List.length_drop]; omega)] at h9; exact h9.drewN m) (belowDrewN HB5.out _)
                      · have hc8' : c5 = 8 := by omega
                        subst hc8'
                        go_wp2_with fail
                        go_ret3
                        exact datE_n (k := qd) HQ.out (by omega) (by omega) (by rw [List.eq_nil_of_length_eq_zero (show qd.length = 0 by omega)]; exact RB.nil) (belowDrewN HB5.out _)
end Go.Proofs.Ytekkcbonkjdgeaa
