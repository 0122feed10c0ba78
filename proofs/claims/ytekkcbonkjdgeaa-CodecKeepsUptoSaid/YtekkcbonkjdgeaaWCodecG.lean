/- The walk of the law CodecKeeps. -/
import Derived.Test.YtekkcbonkjdgeaaReadE
import Derived.Test.YtekkcbonkjdgeaaBackNum
import Derived.Test.YtekkcbonkjdgeaaPutBytes
import Derived.Test.YtekkcbonkjdgeaaText
import Derived.Test.YtekkcbonkjdgeaaLift
import Derived.Test.YtekkcbonkjdgeaaFr
import Derived.Test.YtekkcbonkjdgeaaPlan
namespace Go.Proofs.Ytekkcbonkjdgeaa
open Go.RowKit

/-- What Frame ends in, large or not. -/
def frOr (d : List UInt8) : List UInt8 := if d.length ≤ 65536 then frameB d else []
def AnyF (w : World) (d : List UInt8) (e : Ending) (w' : World) : Prop :=
  ∃ (k : List UInt8) (A : Option Addr) (c : Nat) (v : Int), Hid (k = frOr d) ∧ k.length ≤ 65544 ∧ Hid (d.length ≤ 65536 → v = 0) ∧ e = .returned (.tuple #[.slice A k.length c, .int .i64 v]) ∧ OB w' w.heap.size A c k ∧ Below w.heap.size w w'
theorem codecFrameF (A : Option Addr) (c : Nat) (d : List UInt8) (w : World) (h : RB w A d) (hm : d.length ≤ 9223372036854775807) :
    Calls Try.prog 20 #[.slice A d.length c] w (AnyF w d) := by
  by_cases hl : d.length ≤ 65536
  · refine (codecFrame A c d w h hl).mono ?_
    rintro e w' ⟨k, A', c', hk, hk1, hk2, rfl, ho, hb⟩
    exact ⟨k, A', c', 0, Lib.hid (by rw [hk.out, frOr, if_pos hl]), by rw [frameB_len] at hk1; omega, Lib.hid (fun _ => rfl), rfl, ho, hb⟩
  · refine (codecFrame_large A c d w (by omega) hm).mono ?_
    rintro e w' ⟨rfl, rfl⟩
    exact ⟨[], none, 0, 7, Lib.hid (by rw [frOr, if_neg hl]), by simp, Lib.hid (fun h => absurd h hl), rfl, OB.nil _ _, Below.refl _ _⟩
theorem unfr_or (d : List UInt8) : (d.length ≤ 65536 → unfrAt (frOr d) 0 = (d, 8 + (d.length : Int), 0)) := by
  intro hl
  rw [frOr, if_pos hl]
  have := unfrAt_put [] d (frameB d) rfl hl
  simpa using this
theorem RB.takeK {w : World} {A : Option Addr} {l : List UInt8} (h : RB w A l) (n : Nat) : RB w A (l.take n) := by
  refine ⟨fun hn => ?_⟩
  obtain ⟨b, off, e, hb, hc⟩ := h.at_ (by simp at hn; omega)
  refine ⟨b, off, e, hb, fun j x hx => hc j x ?_⟩
  rw [List.getElem?_take] at hx
  split at hx
  · exact hx
  · cases hx

set_option maxRecDepth 100000 in
set_option maxHeartbeats 8000000 in
theorem walkCodecKeeps (A : Option Addr) (c : Nat) (b : List UInt8) (n : Int) (w : World) (hb : RB w A b) (hbl : b.length ≤ 1048576) (hn : 0 ≤ n ∧ n ≤ 18446744073709551615) :
    Calls Try.prog 9 #[.slice A b.length c, .int .u64 n] w (Yes w) := by
  obtain ⟨n0, n1⟩ := hn
  have HB := Lib.hid hb
  have OWN := Lib.hid (ownB A c b w hb (by omega))
  clear hb
  go_enter Try.func9, Try.ntmps9
  go_wp2_with fail
  refine OWN.out.mono ?_
  rintro e w1 ⟨k1, A1, c1, hk1, hk11, hk12, rfl, ho1, hb1⟩
  go_wp2_with (at_builtin; refine wp_appendB _ rfl (.tmp 21) (.tmp 22) rfl w.heap.size _ _ _ _ k1 [71] rfl rfl (ho1.alloc _) (RB.one _ _ (by decide)) (by simp; omega) (by have := hb1.size; simp; omega) ?_; intro k2 A2 c2 w2 hk2 hk21 hk22 ho2 hg2; have hcc : b.length ≤ c2 := by have h1 := ho2.cap.1; have h2 : k1.length + 1 ≤ k2.length := (by simpa using hk22); omega)
  have B2 : Below w.heap.size w w2 := (hb1.alloc hb1.size _).grown hg2 (by have := hb1.size; simp; omega) fun g hg => (ho1.own_lt g hg).1
  have hk2e : k2 = b ++ [71] := by rw [hk2.out, hk1.out]
  have hk2l : k2.length = b.length + 1 := by rw [hk2e]; simp
  have hk2a : b.length + 1 ≤ k2.length := by omega
  have hk2b : k2.length ≤ b.length + 1 := by omega
  have hpt : k2.take b.length = b := by rw [hk2e]; simp
  have hpart : RB w2 A2 b := by have := ho2.rb.takeK b.length; rwa [hpt] at this
  have hcap2 := ho2.cap
  have h71 : k2[b.length]? = some 71 := by rw [hk2e]; simp
  obtain ⟨g2, of2, rfl, hg2lt, hcell2⟩ := ho2.rb.at_ (by omega)
  have hld := hcell2 b.length 71 h71
  have HLD := Lib.hid hld
  have HPART := Lib.hid hpart
  have PN := Lib.hid (fun w' (hw : Below w2.heap.size w2 w') => putNumB (some ⟨g2, of2, none⟩) c2 b n w' (hpart.below hw) (by omega) n0 n1)
  have FR := Lib.hid (fun w' (hw : Below w2.heap.size w2 w') => codecFrameF (some ⟨g2, of2, none⟩) c2 b w' (hpart.below hw) (by omega))
  have PB := Lib.hid (fun w' (hw : Below w2.heap.size w2 w') => putBytesB (some ⟨g2, of2, none⟩) (some ⟨w'.heap.size, 0, none⟩) c2 1 b [(some ⟨g2, of2, none⟩, c2, b)] _ ((hpart.below hw).alloc _) (RBB.one c2 (hpart.below hw) (by omega)) (by simp) (by have := putB_len b; simp [putAll]; omega))
  clear ho1 hb1 hg2 hk1 hk11 hk12 hk2 hk21 hk22 hk2e hk2l hpt hpart h71 hcell2 hld ho2 OWN
  go_wp2_with fail
  refine (PN.out _ (Below.refl _ _)).mono ?_
  rintro e w3 ⟨x, Ax, cx, hx, hx1, hx2, rfl, hox, hb3⟩
  have hxl : x.length ≤ b.length + 9 := by
    have := putNum_len n.toNat
    rw [List.length_append] at hx1; omega
  have hxp : 0 < x.length := by
    have := putNum_pos n.toNat
    rw [List.length_append] at hx2; omega
  clear hx hx1 hx2
  go_wp2_with fail
  refine (PN.out _ hb3).mono ?_
  rintro e w4 ⟨y, Ay, cy, hy, hy1, hy2, rfl, hoy, hb4⟩
  have hyl : y.length ≤ b.length + 9 := by
    have := putNum_len n.toNat
    rw [List.length_append] at hy1; omega
  have B24 := hb3.trans (hb4.mono hb3.size)
  clear hy1 hy2
  go_wp2_with fail
  have CP := Lib.hid (PB.out _ B24)
  refine CP.out.mono ?_
  rintro e w5 ⟨z, Az, cz, hz, hz1, hz2, rfl, hoz, hb5⟩
  have hzl : z.length ≤ b.length + b.length + 9 := by
    have := putB_len b
    simp [putAll] at hz1; omega
  have HZ := Lib.hid (show z = b ++ putB b by rw [hz.out]; simp [putAll])
  have hal : Below w4.heap.size w4 (w4.alloc (.cells #[.slice (some ⟨g2, of2, none⟩) b.length c2] 23)) := (Below.refl _ _).alloc (Nat.le_refl _) _
  have hb45 := hal.trans (hb5.mono hal.size)
  have hoz' := hoz.base_le hal.size
  have B25 := B24.trans (hb45.mono B24.size)
  clear hz hz1 hz2 hoz hb5 hal CP
  go_wp2_with fail
  refine (FR.out _ B25).mono ?_
  rintro e w6 ⟨f, Af, cf, v, hf, hfl, hv, rfl, hof, hb6⟩
  have B26 := B25.trans (hb6.mono B25.size)
  obtain ⟨gx, ex, hgx1, hgx2, _⟩ := (hox.store hxp)
  subst ex
  have HX6 := (((hox.below hb4).below hb45).below hb6)
  have HY6 := (((hoy.below hb45).below hb6))
  have HZ6 := hoz'.below hb6
  have s3 := hb3.size
  have s4 := hb4.size
  have s45 := hb45.size
  have s6 := hb6.size
  have KEEP : Hid (∀ w', w6.grownBy w' (some gx) → Below w2.heap.size w2 w' ∧ RB w' Ay y ∧ RB w' Az z ∧ OB w' w5.heap.size Af cf f) := Lib.hid (fun w' hg => ⟨B26.grown hg B26.size (fun q hq => by injection hq with hq; omega),
    (HY6.grown hg (.inl fun e => by have := (hoy.blk_lt gx e).1; omega)).rb, (HZ6.grown hg (.inl fun e => by have := (hoz'.blk_lt gx e).1; omega)).rb, hof.grown hg (.inl fun e => by have := (hof.blk_lt gx e).1; omega)⟩)
  have HX := Lib.hid HX6
  clear hox hoy hoz' hof HX6 HY6 HZ6 hb3 hb4 hb45 hb6 B24 B25 B26 s3 s4 s45 s6 PN FR PB hgx1 hgx2
  go_wp2_with fail
  go_loopw [12] (fun i wr => ∃ (j : Nat) (l : List UInt8), j ≤ x.length ∧ i = .int .i64 (j : Int) ∧ Hid (l.length = x.length) ∧ OB wr w2.heap.size (some ⟨gx, 0, none⟩) cx l ∧ w6.grownBy wr (some gx)) (fun i _ => x.length - (intOf i).toNat)
  case atStart => exact ⟨0, x, Nat.zero_le _, rfl, Lib.hid rfl, HX.out, World.grownBy.refl _ _⟩
  case round =>
    obtain ⟨j, l, hj, rfl, hl, ho, hg⟩ := hrel
    by_cases hlt : j < x.length
    · obtain ⟨g', e', _, _, hcell, hfree, hset⟩ := ho.store (show j < l.length by rw [hl.out]; exact hlt)
      injection e' with e'
      injection e' with e'
      subst e'
      obtain ⟨ho2, hg2⟩ := hset 99 99 (by decide)
      have HO := Lib.hid ho2
      have HG := Lib.hid (gb_trans hg hg2)
      clear hset ho2 hg2 ho hg
      go_wp2_with fail
      go_roundw
      case rel => exact ⟨j + 1, _, by omega, by go_num, Lib.hid (by rw [List.length_set, hl.out]), HO.out, HG.out⟩
      case measure => simp [intOf]; omega
    · obtain ⟨K2, KY, KZ, KF⟩ := KEEP.out wr hg
      clear ho hg hl HX KEEP
      have hB := B2.trans (K2.mono B2.size)
      have hpart := HPART.out.below K2
      have hbb := HB.out.below hB
      have hld : wr.cell? ⟨g2, of2 + b.length, none⟩ = some (.int .u8 71) := (K2.cell (p := ⟨g2, _, none⟩) hg2lt).trans HLD.out
      have hcv1 : ∀ w', Ext wr.drew w' → (convert 23 9 (.slice (some ⟨g2, of2, none⟩) b.length c2)).run Try.prog w' = .ok (.string ⟨b.toArray⟩) w' := fun w' hw => convB c2 (hpart.drew.below hw)
      have hcv2 : ∀ w', Ext wr.drew w' → (convert 23 9 (.slice A b.length c)).run Try.prog w' = .ok (.string ⟨b.toArray⟩) w' := fun w' hw => convB c (hbb.drew.below hw)
      have hcv3 : ∀ w', Ext wr.drew w' → (convert 23 9 (.slice Ay y.length cy)).run Try.prog w' = .ok (.string ⟨y.toArray⟩) w' := fun w' hw => convB cy (KY.drew.below hw)
      have hcv4 : ∀ w', Ext wr.drew w' → (convert 23 9 (.slice Az z.length cz)).run Try.prog w' = .ok (.string ⟨z.toArray⟩) w' := fun w' hw => convB cz (KZ.drew.below hw)
      have hcell : ∀ w', Ext wr.drew w' → w'.cell? ⟨g2, of2 + b.length, none⟩ = some (.int .u8 71) := fun w' hw => (Below.cell hw (p := ⟨g2, _, none⟩) (by have := K2.size; simp; omega)).trans hld
      have HBX := Lib.hid (fun w' (hw : Ext wr.drew w') => (hbb.drew.below hw))
      have KFD : OB wr.drew w5.heap.size Af cf f := KF.below (Below.refl _ _).drew
      have hBD := hB.drew
      clear hld hpart hbb KY KZ KF hB K2
      go_wp2_with fail
      refine wp_region_plan (by kernel_rfl) [(0, false), (1, true), (2, true), (3, true), (4, true), (5, true), (6, true), (7, true), (8, true), (9, true), (10, true), (11, true), (12, true), (13, true), (14, true), (15, true), (16, true), (17, true), (18, true), (19, true), (20, true), (21, true), (22, true), (23, false), (24, true), (25, true), (26, true), (27, true), (28, true), (29, true), (30, true), (31, true), (32, true), (33, true), (34, false), (35, true), (36, true), (37, true), (38, true)] (by kernel_rfl) (by kernel_rfl) (by decide) ?_
      refine plan_call rfl (by rfl) (fun K hK => ?_)
      go_simp
      refine (codecAnswers _).mono ?_
      rintro e q1 ⟨rfl, hq1⟩
      refine hK _ _ hq1 ?_
      clear hK K
      try simp only [List.getElem_toArray, List.getElem_cons_succ, List.getElem_cons_zero, Act.put, List.setIfInBounds_toArray, List.set_cons_zero, List.set_cons_succ]
      replace hcv1 := fun w' (h : Ext q1 w') => hcv1 w' (Ext.trans hq1 h)
      replace hcv2 := fun w' (h : Ext q1 w') => hcv2 w' (Ext.trans hq1 h)
      replace hcv3 := fun w' (h : Ext q1 w') => hcv3 w' (Ext.trans hq1 h)
      replace hcv4 := fun w' (h : Ext q1 w') => hcv4 w' (Ext.trans hq1 h)
      replace hcell := fun w' (h : Ext q1 w') => hcell w' (Ext.trans hq1 h)
      have hbi : (b.length : Int) < (k2.length : Int) := by omega
      iterate 22
        (refine plan_pure (v := ?_) rfl (by rfl) (fun w' hw' => ?_) ?_; rotate_left; (focus (simp only [List.getElem_toArray, List.getElem_cons_succ, List.getElem_cons_zero]; go_simp; first | with_reducible rfl | (simp (disch := omega) only [if_pos, if_neg, Result.andThen_ok]; try with_reducible rfl) | skip)); try simp only [List.getElem_toArray, List.getElem_cons_succ, List.getElem_cons_zero, Act.put, List.setIfInBounds_toArray, List.set_cons_zero, List.set_cons_succ])
      refine plan_call rfl (by rfl) (fun K hK => ?_)
      go_simp
      refine (refPutNum n _ n0 n1).mono ?_
      rintro e q2 ⟨k7, A7, c7, hk7, hk71, hk72, rfl, ho7, hq2⟩
      refine hK _ _ hq2 ?_
      clear hK K
      try simp only [List.getElem_toArray, List.getElem_cons_succ, List.getElem_cons_zero, Act.put, List.setIfInBounds_toArray, List.set_cons_zero, List.set_cons_succ]
      clear hcv1 hcell
      replace hcv2 := fun w' (h : Ext q2 w') => hcv2 w' (Ext.trans hq2 h)
      replace hcv4 := fun w' (h : Ext q2 w') => hcv4 w' (Ext.trans hq2 h)
      have hcv7 := fun w' (h : Ext q2 w') => convB c7 (ho7.rb.below h)
      have hk7l : k7.length ≤ 9 := Nat.le_trans hk71 (putNum_len _)
      have hadd7 := concatB b k7 (by omega)
      have heq7 : (y == b ++ k7) = true := by rw [hy.out, hk7.out]; simp
      iterate 10
        (refine plan_pure (v := ?_) rfl (by rfl) (fun w' hw' => ?_) ?_; rotate_left; (focus (simp only [List.getElem_toArray, List.getElem_cons_succ, List.getElem_cons_zero]; go_simp; first | with_reducible rfl | (simp (disch := omega) only [if_pos, if_neg, Result.andThen_ok]; try with_reducible rfl) | skip)); try simp only [List.getElem_toArray, List.getElem_cons_succ, List.getElem_cons_zero, Act.put, List.setIfInBounds_toArray, List.set_cons_zero, List.set_cons_succ])
      refine plan_call rfl (by rfl) (fun K hK => ?_)
      go_simp
      refine (refPutBytes A c b _ (HBX.out _ (Ext.trans hq1 hq2)) (by omega)).mono ?_
      rintro e q3 ⟨k8, A8, c8, hk8, hk81, hk82, rfl, ho8, hq3⟩
      refine hK _ _ hq3 ?_
      clear hK K
      try simp only [List.getElem_toArray, List.getElem_cons_succ, List.getElem_cons_zero, Act.put, List.setIfInBounds_toArray, List.set_cons_zero, List.set_cons_succ]
      have hcv8 := fun w' (h : Ext q3 w') => convB c8 (ho8.rb.below h)
      have hk8l : k8.length ≤ b.length + 9 := Nat.le_trans hk81 (putB_len _)
      have hadd8 := concatB b k8 (by omega)
      have heq8 : (z == b ++ k8) = true := by rw [HZ.out, hk8.out]; simp
      clear hcv2 hcv3 hcv4 hcv7 hadd7 heq7
      iterate 4
        (refine plan_pure (v := ?_) rfl (by rfl) (fun w' hw' => ?_) ?_; rotate_left; (focus (simp only [List.getElem_toArray, List.getElem_cons_succ, List.getElem_cons_zero]; go_simp; first | with_reducible rfl | (simp (disch := omega) only [if_pos, if_neg, Result.andThen_ok]; try with_reducible rfl) | skip)); try simp only [List.getElem_toArray, List.getElem_cons_succ, List.getElem_cons_zero, Act.put, List.setIfInBounds_toArray, List.set_cons_zero, List.set_cons_succ])
      refine plan_end ?_
      have B1 := hBD.trans (hq1.mono hBD.size)
      have B2' := B1.trans (hq2.mono B1.size)
      have B3 := B2'.trans (hq3.mono B2'.size)
      have KF3 := ((KFD.below hq1).below hq2).below hq3
      have UN := Lib.hid (fun w' (hw : Below q3.heap.size q3 w') => codecUnframeO Af cf f 0 w' (KF3.below hw).rb KF3.cap.1 KF3.cap.2 (by omega) (by omega))
      have HU := Lib.hid (fun h => unfr_or b h)
      rw [← hf.out] at HU
      generalize unfrAt f 0 = p at *
      clear B1 B2' hBD hq1 hq2 hq3 KFD hcv8 hadd8 heq8 hk8 hk81 hk82 ho8 hk7 hk71 hk72 ho7 HZ hy hf HBX hk7l hk8l
      go_wp2_with fail
      refine (UN.out _ (Below.refl _ _)).mono ?_
      rintro e q4 ⟨d, Ad, cd, hd, hdl, rfl, hod, hq4⟩
      have B4 := B3.trans (hq4.mono B3.size)
      have HOD := Lib.hid hod
      have HQ4 := Lib.hid hq4
      have s4 := hq4.size
      have s3 := B3.size
      have hdl2 : d.length ≤ 65544 := by omega
      clear B3 hq4 hod
      go_wp2_with fail
      go_loopw [16] (fun i wx => ∃ (m : Nat) (l : List UInt8), m ≤ d.length ∧ i = .int .i64 (m : Int) ∧ Hid (l.length = d.length) ∧ OB wx q3.heap.size Ad cd l ∧ q4.grownBy wx (Ad.map (·.block))) (fun i _ => d.length - (intOf i).toNat)
      case atStart => exact ⟨0, d, Nat.zero_le _, rfl, Lib.hid rfl, HOD.out, World.grownBy.refl _ _⟩
      case round =>
        obtain ⟨m, l, hm, rfl, hl, ho, hg⟩ := hrel
        by_cases hlt2 : m < d.length
        · obtain ⟨g', e', _, _, hcell, hfree, hset⟩ := ho.store (show m < l.length by rw [hl.out]; exact hlt2)
          subst e'
          obtain ⟨ho2, hg2⟩ := hset 99 99 (by decide)
          have HO := Lib.hid ho2
          have HG := Lib.hid (gb_trans hg hg2)
          clear hset ho2 hg2 ho hg
          go_wp2_with fail
          go_roundw
          case rel => exact ⟨m + 1, _, by omega, by go_num, Lib.hid (by rw [List.length_set, hl.out]), HO.out, HG.out⟩
          case measure => simp [intOf]; omega
        · have hq := HQ4.out.grown hg s4 (fun g hg => (HOD.out.blk_lt g hg).1)
          have hB4 := B4.grown hg B4.size (fun g hg => by have := (HOD.out.blk_lt g hg).1; omega)
          clear ho hg hl
          go_wp2_with fail
          refine (UN.out _ hq).mono ?_
          rintro e q5 ⟨d5, A5, c5, hd5, hd5l, rfl, ho5, hq5⟩
          have HB5 := Lib.hid (hB4.trans (hq5.mono hB4.size))
          have r5 := ho5.rb
          have hcv5 : (convert 23 9 (.slice A5 d5.length c5)).run Try.prog q5 = .ok (.string ⟨d5.toArray⟩) q5 := convB c5 r5
          have hcvb : (convert 23 9 (.slice A b.length c)).run Try.prog q5 = .ok (.string ⟨b.toArray⟩) q5 := convB c (HB.out.below HB5.out)
          clear hq hq5 ho5 r5 UN
          by_cases hbig : 65536 < b.length
          · have hbig' : (65536 : Int) < (b.length : Int) := by omega
            go_wp2_with fail
            go_ret
            exact ⟨rfl, HB5.out⟩
          · have hp := HU.out (by omega)
            have hv0 := hv.out (by omega)
            have hbig' : ¬ (65536 : Int) < (b.length : Int) := by omega
            subst hp
            subst hv0
            have heq5 : (d5 == b) = true := by rw [hd5.out]; simp
            go_wp2_with fail
            go_ret
            exact ⟨rfl, HB5.out⟩
end Go.Proofs.Ytekkcbonkjdgeaa
