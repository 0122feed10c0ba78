/- The walk of WalDrops. -/
import Derived.Test.YtjgonfnpfbifjaaGreatDoorWalB2
import Derived.Test.YtjgonfnpfbifjaaGreatDoorWalC3
namespace Go.Proofs.YtjgonfnpfbifjaaGreatDoor
open Go.RowKit

section
variable {B p g n c : Nat} {S F S' F' : Nat → Prop} {w w' wr : World} {l l' : Lg} {D D' : DSt} {Z : List (Sg × Pl)} {Y : List (List UInt8 × Option Addr × Nat)} {SA RA : Option Addr} {sc rc : Nat}
/-- One record in a row of its own, handed to Append. -/
theorem rl_one {A : Option Addr} {c : Nat} {r : List UInt8} {T : Nat → Prop} (h : OB w n A c r) (hr : r.length ≤ 140737488355328) (hT : ∀ b, T b → b < n) (hn : n ≤ w.heap.size) :
    RL T (w.alloc (.cells #[.slice A r.length c] TB)) (some ⟨w.heap.size, 0, none⟩) [(A, c, r)] := by
  have hb : Below w.heap.size w (w.alloc (.cells #[.slice A r.length c] TB)) := (Below.refl _ _).alloc (Nat.le_refl _) _
  have h1 : RowsL (w.alloc (.cells #[.slice A r.length c] TB)) n (some ⟨w.heap.size, 0, none⟩) 1 [(A, c, r)] := by
    refine ⟨OV.lit1 w hn _ _, fun t ht => ?_⟩
    rw [List.mem_singleton.1 ht]
    exact ⟨h.below hb, hr⟩
  exact h1.rl (fun b hb => .inl (hT b hb))
/-- Where WalDrops' first loop stands. -/
structure DlAt (L : List (List UInt8)) (w : World) (p g : Nat) (wr : World) (S' F' : Nat → Prop) (lk : Lg) (Dk : DSt) (Z : List (Sg × Pl)) (Y : List (List UInt8 × Option Addr × Nat)) (SA : Option Addr) (sc : Nat) (RA : Option Addr) (rc : Nat) (k : Nat) : Prop where
  lx : LX w.heap.size S' F' wr p g lk Dk Z Y SA sc RA rc
  wok : WOk L k lk
  dok : DOk Dk (k + 1)
  sm : ∀ r ∈ L.take k, r.length ≤ 512
  fst : lk.first = 1
  ss : ∀ b, S' b → w.heap.size ≤ b
  ff : ∀ b, F' b → w.heap.size ≤ b
  bel : Below w.heap.size w wr
set_option maxRecDepth 20000 in
set_option maxHeartbeats 16000000 in
theorem walkWalDrops (A0 : Option Addr) (c0 : Nat) (L0 : List (Option Addr × Nat × List UInt8)) (tv fv : Int) (w : World) (f0 : RBB w A0 L0) (ht : 0 ≤ tv ∧ tv ≤ 65535) (hf : 0 ≤ fv ∧ fv ≤ 65535) (hE : SEnv w.heap.size w) :
    Calls Tryz.prog 4 #[.slice A0 L0.length c0, .int .u16 tv, .int .u16 fv] w fun e w' => e = .returned (.bool true) ∧ Below w.heap.size w w' := by
  obtain ⟨tv, rfl⟩ := Int.eq_ofNat_of_zero_le ht.1
  obtain ⟨fv, rfl⟩ := Int.eq_ofNat_of_zero_le hf.1
  have ht' : tv ≤ 65535 := by omega
  have hf' : fv ≤ 65535 := by omega
  have HE := Lib.hid hE
  have F0 := Lib.hid f0
  have ND := Lib.hid (diskNew 4000000 w (by decide) (by decide))
  clear hE f0 ht hf
  go_enter Tryz.func4, Tryz.ntmps4
  go_wp2_with (go_at_call 6; refine ND.out.mono ?_)
  first | rintro e w1 g rfl hd b1 | rintro e w1 ⟨g, rfl, hd, b1⟩
  have HB1 := Lib.hid b1
  have OP := Lib.hid (walOpenNew (B := w.heap.size) 4000000 (by decide) hd b1.size (fun x hx => hx.1) (HE.out.below b1))
  clear hd b1 ND
  go_wp2_with (go_at_call 7; refine OP.out.mono ?_)
  rintro e w2 ⟨p, S2, F2, rfl, ⟨Z, Y, SA, sc, RA, rc, hx⟩, hs2, hf2, hm2⟩
  have HB2 : Hid (Below w.heap.size w w2) := Lib.hid (Mods.old HB1.out hm2 HB1.out.size (fun i _ h => h.1))
  have HSF : Hid ((∀ b, S2 b → w.heap.size ≤ b) ∧ (∀ b, F2 b → w.heap.size ≤ b)) := Lib.hid ⟨fun b hb => (hs2 b hb).elim (fun h => h.1) (fun h => Nat.le_trans HB1.out.size h), fun b hb => Nat.le_trans HB1.out.size (hf2 b hb)⟩
  have HX2 := Lib.hid hx
  have hsz2 : w.heap.size ≤ w2.heap.size := HB2.out.size
  have AN : Hid (∀ v, Below w2.heap.size w2 v → Calls Tryz.prog 9 #[] v fun e w' => e = .returned (.bool true) ∧ Below v.heap.size v w') := Lib.hid (fun v hv => walAnswers v ((HE.out.below (HB2.out.trans (hv.mono hsz2))).up (Nat.le_trans hsz2 hv.size)))
  clear OP hx hs2 hf2 hm2 HB1
  by_cases h80 : (80 : Int) < (L0.length : Int)
  · go_wp2_with (go_at_call 9; refine (AN.out _ (Below.refl _ _)).mono ?_)
    first | rintro e w3 rfl hb3 | rintro e w3 ⟨rfl, hb3⟩
    have HB3 := Lib.hid hb3
    clear hb3
    go_wp2_with (go_at_call 9; refine (AN.out _ HB3.out).mono ?_)
    first | rintro e w4 rfl hb4 | rintro e w4 ⟨rfl, hb4⟩
    have HB4 : Hid (Below w.heap.size w w4) := Lib.hid (HB2.out.trans ((HB3.out.trans (hb4.mono HB3.out.size)).mono hsz2))
    clear hb4
    go_wp2_with fail
    go_ret
    exact ⟨rfl, HB4.out⟩
  · have h80n : L0.length ≤ 80 := by omega
    go_wp2_with (go_at_call 9; refine (AN.out _ (Below.refl _ _)).mono ?_)
    first | rintro e w3 rfl hb3 | rintro e w3 ⟨rfl, hb3⟩
    have HX3 := Lib.hid (HX2.out.below hb3)
    have HB3 := Lib.hid (HB2.out.trans (hb3.mono hsz2))
    clear hb3 HX2 HB2 AN hsz2
    obtain ⟨L, hL⟩ : ∃ L, L = L0.map (·.2.2) := ⟨_, rfl⟩
    have HL := Lib.hid hL
    have hLl : Hid (L.length = L0.length) := Lib.hid (by rw [hL, List.length_map])
    have HD0 : Hid (DlAt L w p g w3 S2 F2 lg1 (dsk1 4000000) Z Y SA sc RA rc 0) := Lib.hid ⟨HX3.out, (wok_new L).1, (wok_new L).2, by simp, rfl, HSF.out.1, HSF.out.2, HB3.out⟩
    clear hL HX3 HB3 HSF
    go_wp2_with fail
    go_loopw [11] (fun s11 wr => ∃ k S' F' lk Dk Z Y SA sc RA rc, k ≤ L0.length ∧ s11 = .int .i64 (k : Int) ∧ Hid (DlAt L w p g wr S' F' lk Dk Z Y SA sc RA rc k)) (fun s11 _ => L0.length - (intOf s11).toNat)
    case atStart => exact ⟨0, _, _, _, _, _, _, _, _, _, _, Nat.zero_le _, rfl, HD0⟩
    case round =>
      clear HD0
      obtain ⟨k, S', F', lk, Dk, Z, Y, SA, sc, RA, rc, hk, rfl, HD⟩ := hrel
      by_cases hlt : k < L0.length
      · have hki : (k : Int) < (L0.length : Int) := by omega
        have hki0 : (0 : Int) ≤ (k : Int) := by omega
        obtain ⟨xb, off, rfl, hbl, hc⟩ := (F0.out.below HD.out.bel).cell hlt
        have hrb := (F0.out.below HD.out.bel).each L0[k] (List.getElem_mem hlt)
        obtain ⟨⟨Ak, ck, r⟩, hy⟩ : ∃ y, y = L0[k] := ⟨_, rfl⟩
        rw [← hy] at hc hrb
        simp only at hc hrb
        have hLk : L[k]? = some r := by rw [HL.out, List.getElem?_map, List.getElem?_eq_getElem hlt, ← hy]; rfl
        have HLK := Lib.hid hLk
        have HRB := Lib.hid hrb
        clear hy hrb hLk
        by_cases h512 : (512 : Int) < (r.length : Int)
        · have HF : Hid (Below w.heap.size w wr) := Lib.hid HD.out.bel
          clear HD
          go_wp2_with fail
          go_ret
          exact ⟨rfl, HF.out⟩
        · have hr512 : r.length ≤ 512 := by omega
          have hkL : k < L.length := by rw [hLl.out]; exact hlt
          have hLr : L[k] = r := (List.getElem?_eq_some_iff.1 HLK.out).2
          have hsr : w.heap.size ≤ wr.heap.size := HD.out.bel.size
          obtain ⟨lk2, Dk2, hap, hw2, hd2, hfs2⟩ := HD.out.wok.append HD.out.dok (by omega) hkL (by rw [hLr]; exact hr512) (by rw [hLl.out]; exact h80n)
          rw [hLr] at hap
          have HAP := Lib.hid (And.intro hap (And.intro hw2 (And.intro hd2 (hfs2.trans HD.out.fst))))
          have HSM : Hid (∀ r ∈ L.take (k + 1), r.length ≤ 512) := Lib.hid (fun r' hr' => by
            rw [List.take_succ_eq_append_getElem hkL, List.mem_append] at hr'
            rcases hr' with h | h
            · exact HD.out.sm r' h
            · rw [List.mem_singleton.1 h, hLr]; exact hr512)
          have ha0 : Below wr.heap.size wr (wr.alloc (.cells #[] 5)) := (Below.refl _ _).alloc (Nat.le_refl _) _
          have HE0 := Lib.hid (OB.made0 (base := wr.heap.size) wr (Nat.le_refl _))
          have HR0 := Lib.hid (HRB.out.1.below ha0)
          have HA0 := Lib.hid ha0
          have hs0 : wr.heap.size ≤ (wr.alloc (.cells #[] 5)).heap.size := ha0.size
          clear hLr hap hw2 hd2 hfs2 ha0
          go_wp2_with (at_builtin; refine wp_appendB _ rfl (.tmp 53) (.tmp 57) rfl wr.heap.size _ _ _ _ [] r rfl rfl HE0.out HR0.out (by simp only [List.length_nil]; omega) hs0 ?_)
          intro d A1 c1 w5 hd hd1 hd2 ho5 hg5
          have hdr : d = r := hd.out
          subst hdr
          have hb5 : Below wr.heap.size wr w5 := ⟨hg5.os.trans HA0.out.os, hg5.tape.trans HA0.out.tape, hg5.output.trans HA0.out.output, Nat.le_trans HA0.out.size hg5.size, fun i hi => (hg5.block i (Nat.lt_of_lt_of_le hi HA0.out.size) (fun e => by simp [Value.ownBlock] at e; omega)).trans (HA0.out.block i hi)⟩
          obtain ⟨w6, hw6⟩ : ∃ w6, w6 = w5.alloc (.cells #[.slice A1 d.length c1] TB) := ⟨_, rfl⟩
          have hb6 : Below wr.heap.size wr w6 := by rw [hw6]; exact hb5.trans ((Below.refl w5.heap.size w5).alloc (Nat.le_refl _) _ |>.mono hb5.size)
          have hRL := rl_one (T := fun b => S' b ∨ F' b) ho5 (by omega) (fun b hb => by
            rcases hb with hb | hb
            · exact HD.out.lx.lb.di.bnd b hb
            · exact (HD.out.lx.lb.bnd b hb).2) hb5.size
          rw [← hw6] at hRL
          have hfine := (HD.out.wok.fine (Nat.le_of_lt hkL) (by omega) HD.out.sm).1
          have AP := walAppend (HD.out.lx.below hb6) (Nat.le_trans hsr hb6.size) (HE.out.below (HD.out.bel.trans (hb6.mono hsr))) (some ⟨w5.heap.size, 0, none⟩) 1 [(A1, c1, d)] hRL (by simp) hfine (by have := HD.out.dok.cn; omega)
          rw [show List.map (fun x : Option Addr × Nat × List UInt8 => x.2.2) [(A1, c1, d)] = [d] from rfl, HAP.out.1] at AP
          rw [hw6] at AP
          have APH := Lib.hid AP
          have HW6 := Lib.hid hw6
          have HB6 := Lib.hid hb6
          clear hd hd1 hd2 ho5 hg5 hb5 hb6 hRL hfine AP hw6 HE0 HR0 HA0 hs0
          go_wp2_with (go_at_call 10; refine APH.out.mono ?_)
          rw [← HW6.out]
          rintro e w7 ⟨rfl, S7, F7, ⟨Z7, Y7, SA7, sc7, RA7, rc7, hx7⟩, hs7, hf7, hm7⟩
          have HB6w : Hid (Below w.heap.size w w6) := Lib.hid (HD.out.bel.trans (HB6.out.mono hsr))
          have h6s : w.heap.size ≤ w6.heap.size := HB6w.out.size
          have HD7 : Hid (DlAt L w p g w7 S7 F7 lk2 Dk2 Z7 Y7 SA7 sc7 RA7 rc7 (k + 1)) := Lib.hid ⟨hx7, HAP.out.2.1, HAP.out.2.2.1, HSM.out, HAP.out.2.2.2, fun b hb => (hs7 b hb).elim (HD.out.ss b) (fun h => Nat.le_trans h6s h), fun b hb => (hf7 b hb).elim (HD.out.ff b) (fun h => Nat.le_trans h6s h), Mods.old HB6w.out hm7 h6s (fun i _ h => h.elim (HD.out.ss i) (HD.out.ff i))⟩
          clear hx7 hs7 hf7 hm7 APH HW6 HB6 HB6w HD HAP HSM HRB HLK
          go_wp2_with fail
          go_roundw
          case rel => exact ⟨k + 1, _, _, _, _, _, _, _, _, _, _, by omega, by go_num, HD7⟩
          case measure => simp [intOf]; omega
      · obtain rfl : k = L0.length := by omega
        obtain ⟨n, hn⟩ : ∃ n, n = L0.length := ⟨_, rfl⟩
        have hnL : L.length = n := by rw [hn, hLl.out]
        have hn80 : n ≤ 80 := by omega
        rw [← hn] at HD
        have hsm : ∀ r ∈ L, r.length ≤ 512 := fun r hr => HD.out.sm r (by rw [List.take_of_length_le (by omega)]; exact hr)
        obtain ⟨N, hN⟩ : ∃ N, N = n + 1 := ⟨_, rfl⟩
        obtain ⟨hr1, hr2⟩ := HD.out.wok.rlen (by omega)
        have NX : Hid (∀ v, Below wr.heap.size wr v → Calls Tryz.prog 14 #[.pointer (some ⟨p, 0, none⟩)] v fun e w' => e = .returned (.int .u64 (N : Int)) ∧ ∃ m, w' = v.drewN m) := Lib.hid (fun v hv => by
          have h := walNext (HD.out.lx.blk.kept hv) lk.first lk.recs.length rc RA rfl rfl (by unfold Lg.next at hr2; omega)
          have e : lk.first + lk.recs.length = N := by unfold Lg.next at hr2; omega
          rw [e] at h
          exact h)
        obtain ⟨K, hK⟩ : ∃ K, K = tv % N := ⟨_, rfl⟩
        have hKn : K < N := by rw [hK]; exact Nat.mod_lt _ (by omega)
        have hrm : Int.tmod (tv : Int) (N : Int) = (K : Int) := by rw [hK]; rfl
        obtain ⟨at_, hat⟩ : ∃ a, a = K + 1 := ⟨_, rfl⟩
        have hwat : IntKind.u64.wrap ((K : Int) + 1) = (at_ : Int) := by rw [IntWalk.u64_in _ (by omega)]; omega
        have hwtv : IntKind.u64.wrap (tv : Int) = (tv : Int) := IntWalk.u64_in _ (by omega)
        have hN0 : ¬ (N : Int) = 0 := by omega
        have hat1 : 1 ≤ at_ ∧ at_ ≤ n + 1 := by omega
        have HNN := Lib.hid (And.intro hn (And.intro hnL hN))
        have HSM := Lib.hid hsm
        clear hn hnL hN hr1 hr2 hK hKn hat hsm h80 h80n
        go_wp2_with (go_at_call 14; refine (NX.out _ (Below.refl _ _)).mono ?_)
        first | rintro e w3 rfl n3 rfl | rintro e w3 ⟨rfl, n3, rfl⟩
        have HB3 := Lib.hid (belowDrewN (Below.refl wr.heap.size wr) n3)
        generalize wr.drewN n3 = w3 at *
        go_upto_region 13 with fail
        have hnL2 := HNN.out.2.1
        have hNn := HNN.out.2.2
        obtain ⟨l4, D4, hdr, hw4, hd4, hf4, hfew⟩ := HD.out.wok.dropW HD.out.dok (by omega) (t := at_) hat1.2 (by rw [HD.out.fst]; exact hat1.1)
        obtain ⟨_, hfd, hchn⟩ := HD.out.wok.fine (by omega) (by omega) HD.out.sm
        have hsr : w.heap.size ≤ wr.heap.size := HD.out.bel.size
        have hs3 : wr.heap.size ≤ w3.heap.size := HB3.out.size
        have DP := walDrop (HD.out.lx.below HB3.out) (Nat.le_trans hsr hs3) at_ (by omega) hchn hfd (by have := HD.out.dok.cn; have := HD.out.wok.sl; omega)
        rw [hdr] at DP
        have DPH := Lib.hid DP
        obtain ⟨f4, hf4d⟩ : ∃ f4, f4 = l4.first := ⟨_, rfl⟩
        obtain ⟨hr1, hr2⟩ := hw4.rlen (by omega)
        have hf41 := hw4.f1
        rw [← hf4d] at hf4 hf41
        have hcd4 : D4.cnt + l4.segs.length ≤ 400 := by have := hd4.cn; have := hw4.sl; have := HD.out.wok.sl; omega
        have HW4 := Lib.hid (And.intro hw4 (And.intro hd4 (And.intro hfew (And.intro hr2 hf4d))))
        have HC4 := Lib.hid hcd4
        have hflt : ¬ (at_ : Int) < (f4 : Int) := by omega
        have hwl : IntKind.u64.wrap (L0.length : Int) = (L0.length : Int) := IntWalk.u64_in _ (by have := HNN.out.1; omega)
        have hwl2 : IntKind.u64.wrap ((L0.length : Int) + 1) = (N : Int) := by rw [IntWalk.u64_in _ (by have := HNN.out.1; omega)]; have := HNN.out.1; omega
        have hslk := HD.out.wok.sl
        clear hdr hw4 hd4 hfew hfd hchn DP hr1 hr2 hnL2 hNn hf4d hcd4 hwat hwtv hrm hN0
        go_wp2_with (go_at_call 15; refine DPH.out.mono ?_)
        rintro e w4 ⟨rfl, S4, F4, ⟨Z4, Y4, SA4, sc4, RA4, rc4, hx4⟩, hs4, hf4b, hm4⟩
        have HB4 : Hid (Below w.heap.size w w4) := Lib.hid (Mods.old (HD.out.bel.trans (HB3.out.mono hsr)) hm4 (Nat.le_trans hsr hs3) (fun i _ h => h.elim (HD.out.ss i) (HD.out.ff i)))
        have HS4 : Hid ((∀ b, S4 b → w.heap.size ≤ b) ∧ (∀ b, F4 b → w.heap.size ≤ b)) := Lib.hid ⟨fun b hb => (hs4 b hb).elim (HD.out.ss b) (fun h => Nat.le_trans hsr (Nat.le_trans hs3 h)), fun b hb => (hf4b b hb).elim (HD.out.ff b) (fun h => Nat.le_trans hsr (Nat.le_trans hs3 h))⟩
        have HX4 := Lib.hid hx4
        have FI : Hid (∀ v, Below w4.heap.size w4 v → Calls Tryz.prog 16 #[.pointer (some ⟨p, 0, none⟩)] v fun e w' => e = .returned (.int .u64 (f4 : Int)) ∧ v = w') := Lib.hid (fun v hv => by rw [HW4.out.2.2.2.2]; exact walFirst (hx4.blk.kept hv) l4.first rfl)
        have NX4 : Hid (∀ v, Below w4.heap.size w4 v → Calls Tryz.prog 14 #[.pointer (some ⟨p, 0, none⟩)] v fun e w' => e = .returned (.int .u64 (N : Int)) ∧ ∃ m, w' = v.drewN m) := Lib.hid (fun v hv => by
          have hr2 := HW4.out.2.2.2.1
          have h := walNext (hx4.blk.kept hv) l4.first l4.recs.length rc4 RA4 rfl rfl (by unfold Lg.next at hr2; omega)
          have e : l4.first + l4.recs.length = N := by unfold Lg.next at hr2; have := HNN.out.2.2; omega
          rw [e] at h
          exact h)
        have hs4w : w.heap.size ≤ w4.heap.size := HB4.out.size
        clear hx4 hs4 hf4b hm4 DPH HD NX HB3
        go_wp2_with (go_at_call 16; refine (FI.out _ (Below.refl _ _)).mono ?_)
        first | rintro e w5 rfl rfl | rintro e w5 ⟨rfl, rfl⟩
        go_wp2_with (go_at_call 14; refine (NX4.out _ (Below.refl _ _)).mono ?_)
        first | rintro e w5 rfl n5 rfl | rintro e w5 ⟨rfl, n5, rfl⟩
        have HB5 := Lib.hid (belowDrewN (Below.refl w4.heap.size w4) n5)
        generalize w4.drewN n5 = w5 at *
        go_wp2_with (go_at_call 16; refine (FI.out _ HB5.out).mono ?_)
        first | rintro e w6 rfl rfl | rintro e w6 ⟨rfl, rfl⟩
        have HB5w := Lib.hid (HB4.out.trans (HB5.out.mono hs4w))
        go_wp2_with fail
        go_loopw [13, 14] (fun s13 s14 wr => ∃ i, f4 ≤ i ∧ i ≤ at_ ∧ s14 = .int .u64 (i : Int) ∧ s13 = .int .i64 (bytesOf L (f4 - 1) (i - f4) : Int) ∧ wr = w5) (fun _ s14 _ => at_ - (intOf s14).toNat)
        case atStart => exact ⟨f4, Nat.le_refl _, hf4, rfl, by simp [bytesOf], by first | rfl | trivial⟩
        case round =>
          obtain ⟨i, hi1, hi2, rfl, rfl, rfl⟩ := hrel
          by_cases hlt : i < at_
          · have hI : (i : Int) < (at_ : Int) := by omega
            obtain ⟨j, rfl⟩ : ∃ j, i = j + 1 := ⟨i - 1, by omega⟩
            have hjn : j < L0.length := by have := HNN.out.1; omega
            have hjI0 : (0 : Int) ≤ (j : Int) := by omega
            have hjI1 : (j : Int) < (L0.length : Int) := by omega
            obtain ⟨xb, off, rfl, hbl, hc⟩ := (F0.out.below HB5w.out).cell hjn
            have hjL : f4 - 1 + (j + 1 - f4) < L.length := by have := hLl.out; omega
            have hbs := bytesOf_succ L hjL
            have hLj : L[f4 - 1 + (j + 1 - f4)].length = L0[j].2.2.length := by
              have e1 : L[f4 - 1 + (j + 1 - f4)]? = some L0[j].2.2 := by
                rw [show f4 - 1 + (j + 1 - f4) = j from by omega, HL.out, List.getElem?_map, List.getElem?_eq_getElem hjn]; rfl
              rw [(List.getElem?_eq_some_iff.1 e1).2]
            have hmx : bytesOf L (f4 - 1) (j + 1 - f4 + 1) ≤ 1100 := by
              have h1 := HW4.out.2.2.1
              unfold Few at h1
              rw [← HW4.out.2.2.2.2] at h1
              have h2 := bytesOf_mono L (f4 - 1) (show j + 1 - f4 + 1 ≤ at_ - f4 by omega)
              omega
            rw [hLj] at hbs
            obtain ⟨s1, hs1⟩ : ∃ s1, s1 = bytesOf L (f4 - 1) (j + 1 - f4) := ⟨_, rfl⟩
            obtain ⟨s2, hs2⟩ : ∃ s2, s2 = bytesOf L (f4 - 1) (j + 1 - f4 + 1) := ⟨_, rfl⟩
            rw [← hs1, ← hs2] at hbs
            rw [← hs2] at hmx
            rw [← hs1]
            have hw1 : IntKind.i64.wrap ((s1 : Int) + (L0[j].2.2.length : Int)) = (s2 : Int) := by rw [IntWalk.i64_in _ (by omega)]; omega
            have hw2 : IntKind.u64.wrap (((j + 1 : Nat) : Int) - 1) = (j : Int) := by rw [IntWalk.u64_in _ (by omega)]; omega
            have hw3 : IntKind.u64.wrap (((j + 1 : Nat) : Int) + 1) = ((j + 2 : Nat) : Int) := by rw [IntWalk.u64_in _ (by omega)]; omega
            have HS2 : Hid (s2 = bytesOf L (f4 - 1) (j + 2 - f4)) := Lib.hid (by rw [hs2]; congr 1; omega)
            generalize L0[j] = y at *
            obtain ⟨y0, y1, y2⟩ := y
            simp only at *
            clear hbs hLj hjL hs1 hs2 hmx
            go_wp2_with fail
            go_roundw
            case rel => exact ⟨j + 2, by omega, by omega, by go_num, by rw [HS2.out], by first | rfl | trivial⟩
            case measure => simp [intOf]; omega
          · obtain rfl : i = at_ := by omega
            obtain ⟨s1, hs1⟩ : ∃ s1, s1 = bytesOf L (f4 - 1) (i - f4) := ⟨_, rfl⟩
            have hmx : s1 ≤ 1100 := by
              have h1 := HW4.out.2.2.1
              unfold Few at h1
              rw [← HW4.out.2.2.2.2] at h1
              omega
            rw [← hs1]
            have hI : ¬ (i : Int) < (i : Int) := by omega
            have hI4 : ¬ (4096 : Int) ≤ (s1 : Int) := by omega
            clear hs1
            obtain ⟨M, hM⟩ : ∃ M, M = N - f4 + 1 := ⟨_, rfl⟩
            obtain ⟨K2, hK2⟩ : ∃ K2, K2 = fv % M := ⟨_, rfl⟩
            have hNn := HNN.out.2.2
            have hK2n : K2 < M := by rw [hK2]; exact Nat.mod_lt _ (by omega)
            obtain ⟨cv, hcv⟩ : ∃ cv, cv = f4 + K2 := ⟨_, rfl⟩
            have hrm : Int.tmod (fv : Int) (M : Int) = (K2 : Int) := by rw [hK2]; rfl
            have hwf : IntKind.u64.wrap (fv : Int) = (fv : Int) := IntWalk.u64_in _ (by omega)
            have hw1 : IntKind.u64.wrap ((N : Int) - (f4 : Int)) = ((N - f4 : Nat) : Int) := by rw [IntWalk.u64_in _ (by omega)]; omega
            have hw2 : IntKind.u64.wrap (((N - f4 : Nat) : Int) + 1) = (M : Int) := by rw [IntWalk.u64_in _ (by omega)]; omega
            have hw3 : IntKind.u64.wrap ((f4 : Int) + (K2 : Int)) = (cv : Int) := by rw [IntWalk.u64_in _ (by omega)]; omega
            have hM0 : ¬ (M : Int) = 0 := by omega
            have hcv1 : f4 ≤ cv ∧ cv ≤ n + 1 := by omega
            generalize N - f4 = M1 at *
            clear hM hK2 hcv hK2n hNn hflt hwl hwl2
            go_wp2_with (first
              | (go_at_call 16; refine (FI.out _ HB5.out).mono ?_; first | rintro e w6 rfl rfl | rintro e w6 ⟨rfl, rfl⟩)
              | (go_at_call 14; refine (NX4.out _ HB5.out).mono ?_))
            first | rintro e w6 rfl n6 rfl | rintro e w6 ⟨rfl, n6, rfl⟩
            have HB6 := Lib.hid (belowDrewN HB5.out n6)
            generalize wr.drewN n6 = w6 at *
            have hs46 : w4.heap.size ≤ w6.heap.size := HB6.out.size
            obtain ⟨c1, c2, c3, c4⟩ := HW4.out.1.cut HW4.out.2.1 (by have := HW4.out.1.sl; omega) (by have := HNN.out.2.1; omega) (t := cv) hcv1.2 (by rw [← HW4.out.2.2.2.2]; exact hcv1.1)
            obtain ⟨_, hfd, hchn⟩ := HW4.out.1.fine (by have := HNN.out.2.1; omega) (by omega) (fun r hr => HSM.out r (List.mem_of_mem_take hr))
            have CP := walCut (HX4.out.below HB6.out) (Nat.le_trans hs4w hs46) cv (by omega) hchn HW4.out.1.ne hfd (fun s hs m hm => by have := (HW4.out.1.sg s hs).mks m hm; omega) (by have := HC4.out; omega)
            obtain ⟨q, hq⟩ : ∃ q, q = wcutW l4 D4 cv := ⟨_, rfl⟩
            rw [← hq] at CP c1 c2 c3 c4
            rw [c1] at CP
            rw [← HW4.out.2.2.2.2] at c2 c4
            have CPH := Lib.hid CP
            have HQ := Lib.hid (And.intro c2 (And.intro c3 c4))
            have hcvb : cv ≤ 81 := by omega
            clear CP c1 c2 c3 c4 hq hfd hchn hwf hI hI4 hmx
            go_wp2_with (first
              | (go_at_call 16; refine (FI.out _ HB6.out).mono ?_; first | rintro e w7 rfl rfl | rintro e w7 ⟨rfl, rfl⟩)
              | (go_at_call 17; refine CPH.out.mono ?_))
            rintro e w7 ⟨rfl, S7, F7, ⟨Z7, Y7, SA7, sc7, RA7, rc7, hx7⟩, hs7, hf7, hm7⟩
            have HB7 : Hid (Below w.heap.size w w7) := Lib.hid (Mods.old (HB4.out.trans (HB6.out.mono hs4w)) hm7 (Nat.le_trans hs4w hs46) (fun i _ h => h.elim (HS4.out.1 i) (HS4.out.2 i)))
            have hrl : q.2.1.recs.length = cv - f4 := by
              rw [HQ.out.2.2, List.length_drop, List.length_take]
              have := HNN.out.2.1
              omega
            have hf41' := hf41
            have FI7 : Hid (∀ v, Below w7.heap.size w7 v → Calls Tryz.prog 16 #[.pointer (some ⟨p, 0, none⟩)] v fun e w' => e = .returned (.int .u64 (f4 : Int)) ∧ v = w') := Lib.hid (fun v hv => by rw [← HQ.out.1]; exact walFirst (hx7.blk.kept hv) q.2.1.first rfl)
            have NX7 : Hid (∀ v, Below w7.heap.size w7 v → Calls Tryz.prog 14 #[.pointer (some ⟨p, 0, none⟩)] v fun e w' => e = .returned (.int .u64 (cv : Int)) ∧ ∃ m, w' = v.drewN m) := Lib.hid (fun v hv => by
              have h := walNext (hx7.blk.kept hv) q.2.1.first q.2.1.recs.length rc7 RA7 rfl rfl (by rw [HQ.out.1, hrl]; omega)
              have e : q.2.1.first + q.2.1.recs.length = cv := by rw [HQ.out.1, hrl]; omega
              rw [e] at h
              exact h)
            have RD7 : Hid (∀ v, Below w7.heap.size w7 v → ∀ j, f4 ≤ j + 1 → (hj : j + 1 < cv) → (hjn : j < L0.length) → Calls Tryz.prog 18 #[.pointer (some ⟨p, 0, none⟩), .int .u64 ((j + 1 : Nat) : Int)] v (WReadEnd L0[j].2.2 0 v)) := Lib.hid (fun v hv j h1 h2 hjn => by
              have h := walRead (hx7.below hv) (j + 1) (by omega) (by unfold Lg.next; rw [HQ.out.1, hrl]; omega) (fun r hr => by
                rw [HQ.out.2.2] at hr
                have := HSM.out r (List.mem_of_mem_take (List.mem_of_mem_drop hr))
                omega)
              have e : readW q.2.1 (j + 1) = (L0[j].2.2, 0) := by
                unfold readW
                have hnx : q.2.1.next = cv := by unfold Lg.next; rw [HQ.out.1, hrl]; omega
                rw [if_neg (by rw [HQ.out.2.1]; simp), if_neg (by rw [HQ.out.1]; omega), if_neg (by rw [hnx]; omega), HQ.out.1, HQ.out.2.2, List.getD_eq_getElem?_getD]
                have e1 : ((L.take (cv - 1)).drop (f4 - 1))[j + 1 - f4]? = some L0[j].2.2 := by
                  rw [List.getElem?_drop, show f4 - 1 + (j + 1 - f4) = j from by omega, List.getElem?_take, if_pos (by omega), HL.out, List.getElem?_map, List.getElem?_eq_getElem hjn]
                  rfl
                rw [e1]
                rfl
              rw [e] at h
              exact h)
            have hs47 : w.heap.size ≤ w7.heap.size := HB7.out.size
            clear hx7 hs7 hf7 hm7 CPH HB6 HX4 FI NX4 HB5 HB4 HS4 hrl
            go_wp2_with (go_at_call 14; refine (NX7.out _ (Below.refl _ _)).mono ?_)
            first | rintro e w8 rfl n8 rfl | rintro e w8 ⟨rfl, n8, rfl⟩
            have HB8 := Lib.hid (belowDrewN (Below.refl w7.heap.size w7) n8)
            generalize w7.drewN n8 = w8 at *
            go_wp2_with (go_at_call 16; refine (FI7.out _ HB8.out).mono ?_; first | rintro e w9 rfl rfl | rintro e w9 ⟨rfl, rfl⟩)
            go_loopw [16] (fun s16 wr => ∃ j, f4 ≤ j + 1 ∧ j + 1 ≤ cv ∧ s16 = .int .u64 ((j + 1 : Nat) : Int) ∧ Hid (Below w7.heap.size w7 wr)) (fun s16 _ => cv - (intOf s16).toNat)
            case atStart => exact ⟨f4 - 1, by omega, by omega, by rw [Nat.sub_add_cancel hf41.1], HB8⟩
            case round =>
              obtain ⟨j, hj1, hj2, rfl, HBR⟩ := hrel
              by_cases hlt : j + 1 < cv
              · have hI : ((j + 1 : Nat) : Int) < (cv : Int) := by omega
                have hjn : j < L0.length := by have := HNN.out.1; omega
                have hjI0 : (0 : Int) ≤ (j : Int) := by omega
                have hjI1 : (j : Int) < (L0.length : Int) := by omega
                have RD := Lib.hid (RD7.out wr HBR.out j hj1 hlt hjn)
                have hw2 : IntKind.u64.wrap (((j + 1 : Nat) : Int) - 1) = (j : Int) := by rw [IntWalk.u64_in _ (by omega)]; omega
                have hw3 : IntKind.u64.wrap (((j + 1 : Nat) : Int) + 1) = ((j + 2 : Nat) : Int) := by rw [IntWalk.u64_in _ (by omega)]; omega
                go_wp2_with (go_at_call 18; refine RD.out.mono ?_)
                rintro e w10 ⟨A, c, nn, rfl, rfl, ho, hb10⟩
                have HB10 := Lib.hid (HBR.out.trans (hb10.mono HBR.out.size))
                have hfr := F0.out.below (HB7.out.trans (HB10.out.mono hs47))
                obtain ⟨xb, off, rfl, hbl, hc⟩ := hfr.cell hjn
                have hrb := (hfr.each L0[j] (List.getElem_mem hjn)).1
                generalize L0[j] = y at *
                obtain ⟨y0, y1, r⟩ := y
                simp only at hc hrb ho
                have k1 : ∀ n, (convert 33 9 (.slice A r.length c)).run Tryz.prog (w10.drewN n) = .ok (.string ⟨r.toArray⟩) (w10.drewN n) := fun n => convB c (ho.rb.below (belowDrewN (Below.refl _ _) n))
                have k2 : ∀ n, (convert 33 9 (.slice y0 r.length y1)).run Tryz.prog (w10.drewN n) = .ok (.string ⟨r.toArray⟩) (w10.drewN n) := fun n => convB y1 (hrb.below (belowDrewN (Below.refl _ _) n))
                clear ho hb10 hrb hfr RD HBR RD7
                go_wp2_with fail
                go_quiet (fail)
                go_wp2_with fail
                go_roundw
                case rel => exact ⟨j + 1, by omega, by omega, by go_num, Lib.hid (belowDrewN HB10.out _)⟩
                case measure => simp [intOf]; omega
              · obtain rfl : cv = j + 1 := by omega
                have HF : Hid (Below w.heap.size w wr) := Lib.hid (HB7.out.trans (HBR.out.mono hs47))
                clear HBR RD7
                go_wp2_with fail
                go_ret
                exact ⟨rfl, HF.out⟩
theorem walkWalDropsC (A0 : Option Addr) (c0 : Nat) (L0 : List (Option Addr × Nat × List UInt8)) (tv fv : Int) (w : World) (f0 : RBB w A0 L0) (ht : 0 ≤ tv ∧ tv ≤ 65535) (hf : 0 ≤ fv ∧ fv ≤ 65535) (hl : laidMetH Tryz.prog Rows.walDropsRow.laid w) :
    Calls Tryz.prog 4 #[.slice A0 L0.length c0, .int .u16 tv, .int .u16 fv] w fun e w' => e = .returned (.bool true) ∧ Below w.heap.size w w' :=
  walkWalDrops A0 c0 L0 tv fv w f0 ht hf (senv_of hl (by kernel_rfl) (by simp [Rows.walDropsRow]) (by simp [Rows.walDropsRow]) (by simp [Rows.walDropsRow]))
end
end Go.Proofs.YtjgonfnpfbifjaaGreatDoor
