/- The walk of the law CodecBack. -/
import Derived.Test.YtekkcbonkjdgeaaReadE
import Derived.Test.YtekkcbonkjdgeaaBackNum
import Derived.Test.YtekkcbonkjdgeaaPutBytes
import Derived.Test.YtekkcbonkjdgeaaText
import Derived.Test.YtekkcbonkjdgeaaLift
import Derived.Test.YtekkcbonkjdgeaaI64
namespace Go.Proofs.Ytekkcbonkjdgeaa
open Go.RowKit

theorem frame_four' (d : List UInt8) : frameB d = four4 d.length ++ four4 (crc (four4 d.length ++ d)) ++ d := rfl
theorem RB.takeB {w : World} {A : Option Addr} {l : List UInt8} (h : RB w A l) (n : Nat) : RB w A (l.take n) := by
  refine ⟨fun hn => ?_⟩
  obtain ⟨b, off, e, hb, hc⟩ := h.at_ (by simp at hn; omega)
  refine ⟨b, off, e, hb, fun j x hx => hc j x ?_⟩
  rw [List.getElem?_take] at hx
  split at hx
  · exact hx
  · cases hx

set_option maxRecDepth 100000 in
set_option maxHeartbeats 8000000 in
theorem walkCodecBack (A : Option Addr) (c : Nat) (b : List UInt8) (n : Int) (D : Option Addr) (cd : Nat) (d : List UInt8) (cut : Int) (w : World) (hb : RB w A b) (hbl : b.length ≤ 140737488351232) (hn : 0 ≤ n ∧ n ≤ 18446744073709551615) (hd : RB w D d) (hdl : d.length ≤ 140737488351232) (hcut : 0 ≤ cut ∧ cut ≤ 65535) :
    Calls Try.prog 13 #[.slice A b.length c, .int .u64 n, .slice D d.length cd, .int .u16 cut] w (Yes w) := by
  have OWNB := Lib.hid (fun w' (hw : Below w.heap.size w w') => ownB A c b w' (hb.below hw) (by omega))
  have OWND := Lib.hid (fun w' (hw : Below w.heap.size w w') => ownB D cd d w' (hd.below hw) (by omega))
  have HCB := Lib.hid (fun w' (hw : Below w.heap.size w w') => convB (W := w') cd (hd.below hw))
  obtain ⟨n, rfl⟩ := Int.eq_ofNat_of_zero_le hn.1
  have n0 := hn.1
  have n1 := hn.2
  clear hn
  obtain ⟨cut, rfl⟩ := Int.eq_ofNat_of_zero_le hcut.1
  have hc1 := hcut.2
  clear hb hd hcut
  by_cases hbig : 65536 < d.length
  · have hbig' : (65536 : Int) < (d.length : Int) := by omega
    go_enter Try.func13, Try.ntmps13
    go_wp2_with fail
    refine (OWND.out _ (Below.refl _ _)).mono ?_
    rintro e w1 ⟨k1, A1, c1, hk1, hk11, hk12, rfl, ho1, hb1⟩
    have C := Lib.hid (codecFrame_large A1 c1 k1 w1 (by omega) (by omega))
    go_wp2_with fail
    refine C.out.mono ?_
    rintro e w' ⟨rfl, rfl⟩
    go_wp2_with fail
    refine (codecAnswers _).mono ?_
    rintro e w2 ⟨rfl, hb2⟩
    go_wp2_with fail
    refine (codecAnswers _).mono ?_
    rintro e w3 ⟨rfl, hb3⟩
    have B2 := hb1.trans (hb2.mono hb1.size)
    have HB := Lib.hid (B2.trans (hb3.mono B2.size))
    clear hb1 hb2 hb3 B2 hk1 hk11 hk12 ho1 C
    go_wp2_with fail
    go_ret
    exact ⟨rfl, HB.out⟩
  · have hbig' : ¬ (65536 : Int) < (d.length : Int) := by omega
    go_enter Try.func13, Try.ntmps13
    go_wp2_with fail
    refine (OWND.out _ (Below.refl _ _)).mono ?_
    rintro e w1 ⟨k1, A1, c1, hk1, hk11, hk12, rfl, ho1, hb1⟩
    have C := Lib.hid (codecFrame A1 c1 k1 w1 ho1.rb (by omega))
    clear ho1
    go_wp2_with fail
    refine C.out.mono ?_
    rintro e w2 ⟨f, Af, cf, hf, hf1, hf2, rfl, hof, hb2⟩
    have hff : f = frameB d := by rw [hf.out, hk1.out]
    have hfl : f.length = 8 + d.length := by rw [hff, frameB_len]
    have hfl1 : f.length ≤ 8 + d.length := by omega
    have hfl2 : 8 + d.length ≤ f.length := by omega
    have HFF := Lib.hid hff
    have B2 := hb1.trans (hb2.mono hb1.size)
    have hcapf := hof.cap
    obtain ⟨gf, of, rfl, _, _⟩ := hof.rb.at_ (by omega)
    have HOF := Lib.hid (hof.base_le hb1.size)
    clear C hf hf1 hf2 hff hfl hb1 hb2 hk1 hk11 hk12 hof
    go_wp2_with fail
    refine (codecAnswers _).mono ?_
    rintro e w3 ⟨rfl, hb3⟩
    have B3 := B2.trans (hb3.mono B2.size)
    have HOF3 := Lib.hid (HOF.out.below hb3)
    clear HOF hb3 B2
    go_wp2_with fail
    refine (OWNB.out _ B3).mono ?_
    rintro e w4 ⟨k4, A4, c4, hk4, hk41, hk42, rfl, ho4, hb4⟩
    have B4 := B3.trans (hb4.mono B3.size)
    have HOF4 := Lib.hid (HOF3.out.below hb4)
    have C := Lib.hid (putNumB A4 c4 k4 n w4 ho4.rb (by omega) n0 n1)
    clear HOF3 hb4 B3 ho4
    go_wp2_with fail
    refine C.out.mono ?_
    rintro e w5 ⟨k5, A5, c5, hk5, hk51, hk52, rfl, ho5, hb5⟩
    have hk5l : k5.length ≤ b.length + 9 := by
      have := putNum_len (n : Int).toNat
      rw [List.length_append] at hk51
      omega
    have E5 := Lib.hid (show k5 = b ++ putNum n by rw [hk5.out, hk4.out, Int.toNat_natCast])
    have B5 := B4.trans (hb5.mono B4.size)
    have HOF5 := Lib.hid (HOF4.out.below hb5)
    have HO5 := Lib.hid ho5.rb
    clear HOF4 hb5 B4 hk5 hk4 hk51 hk52 hk41 hk42 ho5 C
    go_wp2_with fail
    refine (OWND.out _ B5).mono ?_
    rintro e w6 ⟨k6, A6, c6, hk6, hk61, hk62, rfl, ho6, hb6⟩
    have B6 := B5.trans (hb6.mono B5.size)
    have HOF6 := Lib.hid (HOF5.out.below hb6)
    have HO56 := Lib.hid (HO5.out.below hb6)
    clear HOF5 HO5 hb6 B5
    go_wp2_with fail
    have C5 := putBytesB A5 (some ⟨w6.heap.size, 0, none⟩) c5 1 k5 [(A6, c6, k6)] _ (HO56.out.alloc _) (RBB.one c6 ho6.rb (by omega)) (by simp) (by have := putB_len k6; simp [putAll]; omega)
    have hal : Below w6.heap.size w6 (w6.alloc (.cells #[.slice A6 k6.length c6] 23)) := (Below.refl _ _).alloc (Nat.le_refl _) _
    have HOF7 := Lib.hid (HOF6.out.below hal)
    have B7 := B6.trans (hal.mono B6.size)
    have HC5 := Lib.hid C5
    clear C5 HOF6 B6 HO56 ho6 hal
    refine HC5.out.mono ?_
    rintro e w8 ⟨k8, A8, c8, hk8, hk81, hk82, rfl, ho8, hb8⟩
    have B8 := B7.trans (hb8.mono B7.size)
    have E8 := Lib.hid (show k8 = b ++ putNum n ++ putB d by rw [hk8.out, E5.out, hk6.out]; simp [putAll])
    have hk8l : k8.length ≤ b.length + d.length + 18 := by
      have h1 := putNum_len n
      have h2 := putB_len d
      rw [E8.out, List.length_append, List.length_append]
      omega
    have ho8' := ho8.base_le B7.size
    have HOF8 := Lib.hid (HOF7.out.below hb8)
    have HO8 := Lib.hid ho8
    have HB8 := Lib.hid hb8
    clear HC5 B7 hb8 hk8 hk81 hk82 hk6 hk61 hk62 E5 ho8
    go_wp2_with (at_builtin; refine wp_appendB _ rfl (.tmp 50) (.tmp 51) rfl w.heap.size _ _ _ _ k8 f rfl rfl ho8' HOF8.out.rb (by omega) B8.size ?_; intro k9 A9 c9 w9 hk9 hk91 hk92 ho9 hg9)
    have B9 : Below w.heap.size w w9 := B8.grown hg9 B8.size fun g hg => (ho8'.own_lt g hg).1
    have HF9 := Lib.hid (HOF7.out.below (HB8.out.grown hg9 HB8.out.size fun g hg => (HO8.out.own_lt g hg).1))
    have E9 := Lib.hid (show k9 = b ++ putNum n ++ putB d ++ f by rw [hk9.out, E8.out])
    have hp1 := putNum_pos n
    have hp9 := putNum_len n
    have hq1 := putNum_pos d.length
    have hq9 := putNum_len d.length
    have hN := numAt_put b (putB d ++ f) n (by omega)
    have hB := bytesAt_put (b ++ putNum n) f d (by omega)
    have hU := unfrAt_put (b ++ putNum n ++ putB d) d f (by rw [HFF.out, frame_four']) (by omega)
    have e1 : b ++ (putNum n ++ (putB d ++ f)) = k9 := by rw [E9.out]; simp
    have e2 : b ++ putNum n ++ (putNum d.length ++ d ++ f) = k9 := by rw [E9.out]; simp [putB]
    have e3 : b ++ putNum n ++ putB d ++ f = k9 := E9.out.symm
    rw [e1] at hN
    rw [e2] at hB
    rw [e3] at hU
    have l1 : ((b ++ putNum n).length : Int) = (b.length : Int) + ((putNum n).length : Int) := by simp
    have l2 : ((b ++ putNum n ++ putB d).length : Int) = (b.length : Int) + ((putNum n).length : Int) + ((putNum d.length).length : Int) + (d.length : Int) := by simp [putB]; omega
    have l3 : ((b.length : Int) + ((putNum n).length : Int) + ((putNum d.length).length : Int) + (d.length : Int) + 8 + (d.length : Int)) = (k9.length : Int) := by rw [E9.out]; simp [putB]; omega
    have l4 : k9.length ≤ 210000000000000 := by omega
    rw [l1] at hB
    rw [l2, l3] at hU
    generalize (putNum n).length = x at *
    generalize (putNum d.length).length = y at *
    have HN := Lib.hid (codecNum A9 c9 k9 b.length w9 ho9.rb ho9.cap.1 ho9.cap.2 l4 (by omega))
    have HBY := Lib.hid (fun w' (hw : Below w9.heap.size w9 w') => codecBytes A9 c9 k9 ((b.length : Int) + (x : Int)) w' (ho9.below hw).rb ho9.cap.1 ho9.cap.2 l4 (by omega))
    have HUF := Lib.hid (fun w' (hw : Below w9.heap.size w9 w') => codecUnframe A9 c9 k9 ((b.length : Int) + (x : Int) + (y : Int) + (d.length : Int)) w' (ho9.below hw).rb ho9.cap.1 ho9.cap.2 l4 (by omega))
    unfold NumE at HN
    rw [hN] at HN
    rw [hB] at HBY
    rw [hU] at HUF
    have HL3 := Lib.hid l3
    clear hN hB hU e1 e2 e3 l1 l2 l3 E8 E9 hk9 ho9 hg9 HB8 HO8 HOF7 HOF8 ho8'
    refine HN.out.mono ?_
    rintro e w' ⟨rfl, rfl⟩
    go_wp2_with fail
    refine (HBY.out _ (Below.refl _ _)).mono ?_
    rintro e w10 ⟨k10, A10, c10, hk10, hk101, rfl, hr10, hb10⟩
    have B10 := B9.trans (hb10.mono B9.size)
    have HB10 := Lib.hid hb10
    have HF10 := Lib.hid (HF9.out.below hb10)
    clear HN HBY B9 hb10 HF9
    go_wp2_with fail
    refine (HUF.out _ HB10.out).mono ?_
    rintro e w11 ⟨k11, A11, c11, hk11, hk111, rfl, hr11, hb11⟩
    have HB11 := Lib.hid (B10.trans (hb11.mono B10.size))
    have HF11 := Lib.hid (HF10.out.below hb11)
    have q10 : (convert 23 9 (.slice A10 k10.length c10)).run Try.prog w11 = .ok (.string ⟨k10.toArray⟩) w11 := convB c10 (hr10.below hb11)
    have q11 : (convert 23 9 (.slice A11 k11.length c11)).run Try.prog w11 = .ok (.string ⟨k11.toArray⟩) w11 := convB c11 hr11
    have qd : (convert 23 9 (.slice D d.length cd)).run Try.prog w11 = .ok (.string ⟨d.toArray⟩) w11 := HCB.out _ HB11.out
    have z1 : k10 = d := hk10.out
    have z2 : k11 = d := hk11.out
    subst z1
    subst z2
    clear HUF B10 HB10 HF10 hb11 hk10 hk11 hr10 hr11
    have hm1 : cut % f.length < f.length := Nat.mod_lt _ (by omega)
    obtain ⟨m, hm⟩ : ∃ m, m = cut % f.length := ⟨_, rfl⟩
    have hmi : ((cut : Int) % (f.length : Int)) = (m : Int) := by rw [hm]; exact (Int.natCast_emod _ _).symm
    rw [← hm] at hm1
    have hcut := unfrAt_cut _ f (by rw [HFF.out, frame_four']) (by omega) m hm1
    have hlm : (f.take m).length = m := by rw [List.length_take]; omega
    have C := codecUnframe (some ⟨gf, of, none⟩) cf (f.take m) 0 w11 (HF11.out.rb.takeB _) (by omega) (by omega) (by omega) (by omega)
    rw [hcut, hlm] at C
    have HC := Lib.hid C
    clear C hcut hlm hm
    have hmc : m ≤ cf := by omega
    go_wp2_with fail
    refine HC.out.mono ?_
    rintro e w12 ⟨k12, A12, c12, hk12, hk121, rfl, hr12, hb12⟩
    have HB12 := Lib.hid (HB11.out.trans (hb12.mono HB11.out.size))
    clear HC hk12 hk121 hr12 hb12
    go_wp2_with fail
    go_ret
    exact ⟨rfl, HB12.out⟩
end Go.Proofs.Ytekkcbonkjdgeaa
