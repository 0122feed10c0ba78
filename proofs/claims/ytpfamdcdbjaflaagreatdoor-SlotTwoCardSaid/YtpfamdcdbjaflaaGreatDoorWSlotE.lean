/- Walk of SlotTwo. -/
import Derived.Test.YtpfamdcdbjaflaaGreatDoorSlotT
import Derived.OwnWalk
namespace Go.Proofs.YtpfamdcdbjaflaaGreatDoor
open Go.RowKit

def nmA : Nm := [97]
def nmAB : Nm := [97, 98]
def nmABC : Nm := [97, 98, 99]
theorem nmA_ok : BaseOk nmA := ⟨by decide, by decide⟩
theorem nmAB_ok : BaseOk nmAB := ⟨by decide, by decide⟩
theorem nmABC_ok : BaseOk nmABC := ⟨by decide, by decide⟩
/-- The disk behind both saves. -/
def dskTwo (x y : List UInt8) : DSt := { dsk0 4000000 with sure := fset [(fileN nmAB 1, frameB x)] (fileN nmA 1) (frameB y), unsure := [] }
theorem frames_two {x y : List UInt8} : ∀ p ∈ fset [(fileN nmAB 1, frameB x)] (fileN nmA 1) (frameB y), p = (fileN nmA 1, frameB y) ∨ p = (fileN nmAB 1, frameB x) := fun p hp => by
  rcases fset_mem hp with h | h
  · exact .inl h
  · exact .inr (List.mem_singleton.1 h)
theorem two_len (x y : List UInt8) : (fset [(fileN nmAB 1, frameB x)] (fileN nmA 1) (frameB y)).length ≤ 2 := fset_len _ _ _
/-- The three slots that are opened again. -/
theorem two_again {x y : List UInt8} (hx : x.length ≤ 65520) (hy : y.length ≤ 65520) {D : DSt} (hr : Rest D) (hs : D.sure = fset [(fileN nmAB 1, frameB x)] (fileN nmA 1) (frameB y)) :
    ((scanD nmAB D = ⟨1, 1, true, x, [fileN nmAB 1]⟩ ∧ openD nmAB D = (0, D)) ∧ (scanD nmA D = ⟨1, 1, true, y, [fileN nmA 1]⟩ ∧ openD nmA D = (0, D)) ∧ (scanD nmABC D = Sc.zero ∧ openD nmABC D = (0, D))) ∧ D.sure.length ≤ 1000 ∧ (∀ p ∈ D.sure, nameOk p.1 = true) ∧
    (∀ b, BaseOk b → ∀ p ∈ D.sure, numN b p.1 = none ∨ ∃ k, k < 18446744073709551616 ∧ p.1 = fileN b k) := by
  obtain ⟨h1, h2⟩ := two_open nmAB_ok nmA_ok (by decide) hr hx hy (by decide) (by decide) hs
  refine ⟨⟨h1, h2, open_others hr fun p hp => ?_⟩, by rw [hs]; have := two_len x y; omega, fun p hp => ?_, fun b hb p hp => ?_⟩
  · rw [hs] at hp
    rcases frames_two p hp with rfl | rfl
    · exact numN_other nmABC_ok nmA_ok (by decide) 1
    · exact numN_other nmABC_ok nmAB_ok (by decide) 1
  · rw [hs] at hp
    rcases frames_two p hp with rfl | rfl
    · exact nameOk_file nmA_ok (by decide)
    · exact nameOk_file nmAB_ok (by decide)
  · rw [hs] at hp
    rcases frames_two p hp with rfl | rfl
    · by_cases e : b = nmA
      · exact .inr ⟨1, by decide, by rw [e]⟩
      · exact .inl (numN_other hb nmA_ok e 1)
    · by_cases e : b = nmAB
      · exact .inr ⟨1, by decide, by rw [e]⟩
      · exact .inl (numN_other hb nmAB_ok e 1)
theorem rest0 (n : Int) : Rest (dsk0 n) := ⟨rfl, rfl, rfl⟩
theorem others0 (b : Nm) (n : Int) : scanD b (dsk0 n) = Sc.zero ∧ openD b (dsk0 n) = (0, dsk0 n) := open_others (rest0 n) (by simp [dsk0])
set_option maxRecDepth 20000 in
set_option maxHeartbeats 8000000 in
theorem walkSlotTwo' (A1 : Option Addr) (c1 : Nat) (la : List UInt8) (A2 : Option Addr) (c2 : Nat) (lb : List UInt8) (mask : Nat) (torn : Int) (w : World) (h1 : RB w A1 la) (h2 : RB w A2 lb) (hla : la.length ≤ 140737488351232) (hlb : lb.length ≤ 140737488351232) (hm : mask < 18446744073709551616) (ht : -9223372036854775808 ≤ torn ∧ torn ≤ 9223372036854775807) (hE : SEnv w.heap.size w) :
    Calls Tryz.prog 6 #[.slice A1 la.length c1, .slice A2 lb.length c2, .int .u64 (mask : Int), .int .i64 torn] w fun e w' => e = .returned (.bool true) ∧ Below w.heap.size w w' := by
  have HE := Lib.hid hE
  have H1 := Lib.hid h1
  have H2 := Lib.hid h2
  have HM := Lib.hid hm
  have HT := Lib.hid ht
  have ND := Lib.hid (diskNew 4000000 w (by decide) (by decide))
  clear hE h1 h2 hm ht
  go_enter Tryz.func6, Tryz.ntmps6
  go_wp2_with (go_at_call 9; refine ND.out.mono ?_)
  first | rintro e w1 ⟨g, rfl, hd, b1⟩ | rintro e w1 g rfl hd b1
  have HB1 := Lib.hid b1
  have OP := Lib.hid (srOpen (b := nmAB) hd (fun x hx => hx.1) b1.size (HE.out.below b1) nmAB_ok (rest0 _) (by simp [dsk0]) (by simp [dsk0]) (by simp [dsk0]) (others0 _ _))
  unfold OpenEnd at OP
  clear hd b1 ND
  go_wp2_with (go_at_call 10; refine OP.out.mono ?_)
  rintro e w2 ⟨p, S1, V1, cv1, O1, co1, rfl, hr1, hn1, hm1, hp1⟩
  have HB2 : Hid (Below w.heap.size w w2) := Lib.hid (Mods.old HB1.out hm1 HB1.out.size (fun i _ h => h.1))
  have HR1 := Lib.hid hr1
  have OQ := Lib.hid (srOpen (b := nmA) hr1.di hr1.sge HB2.out.size (HE.out.below HB2.out) nmA_ok (rest0 _) (by simp [dsk0]) (by simp [dsk0]) (by simp [dsk0]) (others0 _ _))
  unfold OpenEnd at OQ
  clear hr1 hn1 hm1 hp1 OP HB1
  go_wp2_with (go_at_call 10; refine OQ.out.mono ?_)
  rintro e w3 ⟨q, S2, V2, cv2, O2, co2, rfl, hr2, hn2, hm2, hp2⟩
  have HB3 : Hid (Below w.heap.size w w3) := Lib.hid (Mods.old HB2.out hm2 HB2.out.size (fun i _ h => HR1.out.sge i h))
  have HR3 := Lib.hid (HR1.out.other HB2.out.size hr2 hn2 hm2 HR1.out.ps HR1.out.vs HR1.out.os)
  have HR2 := Lib.hid hr2
  have HPQ : Hid (q ≠ p) := Lib.hid (by have := HR1.out.blk.lt; omega)
  have HE3 := Lib.hid ((HE.out.below HB3.out).up HB3.out.size)
  clear hr2 hn2 hm2 hp2 OQ HR1 HB2
  go_wp2_with (go_at_call 12; refine (slotAnswers _ HE3.out).mono ?_)
  first | rintro e w4 ⟨rfl, b4⟩ | rintro e w4 rfl b4
  have HB4 := Lib.hid (HB3.out.trans (b4.mono HB3.out.size))
  have HX4 := Lib.hid (HR3.out.below b4)
  have HY4 := Lib.hid (HR2.out.below b4)
  have HE4 := Lib.hid ((HE.out.below HB4.out).up HB4.out.size)
  clear b4 HR3 HR2 HB3 HE3
  by_cases ha : 65520 < la.length
  · have ha' : (65520 : Int) < (la.length : Int) := by omega
    clear ha
    go_wp2_with (go_at_call 12; refine (slotAnswers _ HE4.out).mono ?_)
    first | rintro e w5 ⟨rfl, b5⟩ | rintro e w5 rfl b5
    have HB5 := Lib.hid (HB4.out.trans (b5.mono HB4.out.size))
    clear b5
    go_wp2_with fail
    go_ret
    exact ⟨rfl, HB5.out⟩
  have ha' : ¬ (65520 : Int) < (la.length : Int) := by omega
  by_cases hb : 65520 < lb.length
  · have hb' : (65520 : Int) < (lb.length : Int) := by omega
    clear hb ha
    go_wp2_with (go_at_call 12; refine (slotAnswers _ HE4.out).mono ?_)
    first | rintro e w5 ⟨rfl, b5⟩ | rintro e w5 rfl b5
    have HB5 := Lib.hid (HB4.out.trans (b5.mono HB4.out.size))
    clear b5
    go_wp2_with fail
    go_ret
    exact ⟨rfl, HB5.out⟩
  have hb' : ¬ (65520 : Int) < (lb.length : Int) := by omega
  have HLA : Hid (la.length ≤ 65520) := Lib.hid (by omega)
  have HLB : Hid (lb.length ≤ 65520) := Lib.hid (by omega)
  have HA4 := Lib.hid (H1.out.below HB4.out)
  have HA24 := Lib.hid (H2.out.below HB4.out)
  clear ha hb HE4
  go_wp2_with (first
    | (at_builtin; refine wp_appendB _ rfl (.tmp 55) (.tmp 56) rfl w4.heap.size _ _ _ _ [] la rfl rfl (OB.made0 _ (Nat.le_refl _)) (HA4.out.alloc _) (by have := HLA.out; simp; omega) (by simp) ?_; intro d1 A5 c5 w5 hd1 hd11 hd12 ho1 hg1; have hB5 : Below w4.heap.size w4 w5 := ((Below.refl _ _).alloc (Nat.le_refl _) _).grown hg1 (by simp) (by simp [Value.ownBlock]); have HB5 := Lib.hid hB5; have HO5 := Lib.hid ho1; have HD1 : Hid (d1 = la) := Lib.hid (by simpa using hd1.out); clear ho1 hg1 hB5 hd1 hd11 hd12)
    | (go_at_call 13; refine (srSave1 (HX4.out.below HB5.out) (Nat.le_trans HB4.out.size HB5.out.size) (HE.out.below (HB4.out.trans (HB5.out.mono HB4.out.size))) nmAB_ok (rest0 _) d1 A5 c5 HO5.out.rb (fun _ y hy => by
        have h1 := (HO5.out.blk_in y hy).1
        exact ⟨fun hs => by have := HX4.out.di.bnd y hs; omega, fun e => by have := HX4.out.blk.lt; omega⟩) (by rw [HD1.out]; exact HLA.out) rfl (by simp [dsk0]) (by rw [HD1.out]; have := HLA.out; simp only [dsk0, fsize, List.map_nil, List.sum_nil]; omega)).mono ?_))
  rintro e w6 ⟨rfl, S6, V6, cv6, O6, co6, hr6, hn6, hm6, _⟩
  have hd1 := HD1.out
  subst hd1
  have hs45 : w.heap.size ≤ w5.heap.size := Nat.le_trans HB4.out.size HB5.out.size
  have hb45 : Below w.heap.size w w5 := HB4.out.trans (HB5.out.mono HB4.out.size)
  have HB6 : Hid (Below w.heap.size w w6) := Lib.hid (Mods.old hb45 hm6 hs45 (fun i _ h => by
    rcases h with h | h
    · exact HX4.out.sge i h
    · rw [h]; exact HX4.out.ge))
  have HY5 := HY4.out.below HB5.out
  have HX5 := HX4.out.below HB5.out
  have HY6 := Lib.hid (HY5.other hs45 hr6 hn6 hm6 (fun h => by
    rcases h with h | h
    · exact HY5.ps h
    · exact HPQ.out h) (fun b hb h => by
    rcases h with h | h
    · exact HY5.vs b hb h
    · rw [h] at hb; exact HY5.val.ne_blk HX5.blk (by decide) hb) (fun b hb h => by
    rcases h with h | h
    · exact HY5.os b hb h
    · rw [h] at hb; exact HY5.old.ne_blk HX5.blk (by decide) hb))
  have HA6 := Lib.hid (H2.out.below HB6.out)
  clear hr6 hn6 hm6 hs45 hb45 HY5 HX5 HX4 HY4 HB5 HO5 HA4 HA24 HB4 HPQ HD1
  obtain ⟨Da, hDa⟩ : ∃ Da : DSt, Da = { dsk0 4000000 with sure := [(fileN nmAB 1, frameB d1)], unsure := [] } := ⟨_, rfl⟩
  have hDa' : ({ dsk0 4000000 with sure := fset (dsk0 4000000).sure (fileN nmAB 1) (frameB d1), unsure := [] } : DSt) = Da := by rw [hDa]; rfl
  rw [hDa'] at HY6
  have HDa := Lib.hid hDa
  have HDR : Hid (Rest Da) := Lib.hid (by rw [hDa]; exact ⟨rfl, rfl, rfl⟩)
  have hne : ¬ fileN nmAB 1 = fileN nmA 1 := by decide
  have HDN : Hid (fget Da.sure (fileN nmA 1) = none) := Lib.hid (by rw [hDa]; simp only; rw [fget_cons, if_neg hne]; rfl)
  have HDL : Hid (Da.sure.length ≤ 500) := Lib.hid (by rw [hDa]; simp)
  have HDF : Hid (fsize Da.sure ≤ 65528 ∧ Da.room = 4000000) := Lib.hid (by rw [hDa]; have := HLA.out; refine ⟨?_, rfl⟩; simp only [dsk0, fsize, List.map_cons, List.map_nil, List.sum_cons, List.sum_nil, frame_len]; omega)
  clear hDa hDa' hne
  have HW6 : Hid (w.heap.size ≤ w6.heap.size) := Lib.hid HB6.out.size
  have HS6 : Hid (∀ x, S6 x → x < w6.heap.size) := Lib.hid HY6.out.di.bnd
  have HQ6 : Hid (q < w6.heap.size) := Lib.hid HY6.out.blk.lt
  go_wp2_with (first
    | (at_builtin; refine wpList_bare (by rfl) ?_; refine wp_appendB _ rfl (.tmp 62) (.tmp 63) rfl w6.heap.size _ _ _ _ [] lb rfl rfl (OB.made0 _ (Nat.le_refl _)) (HA6.out.alloc _) (by have := HLB.out; simp; omega) (by simp) ?_; intro d2 A7 c7 w7 hd2 hd21 hd22 ho2 hg2; have hB7 : Below w6.heap.size w6 w7 := ((Below.refl _ _).alloc (Nat.le_refl _) _).grown hg2 (by simp) (by simp [Value.ownBlock]); have HB7 := Lib.hid hB7; have HO7 := Lib.hid ho2; have HD2 : Hid (d2 = lb) := Lib.hid (by simpa using hd2.out); clear ho2 hg2 hB7 hd2 hd21 hd22)
    | (go_at_call 13; refine (srSave1 (HY6.out.below HB7.out) (Nat.le_trans HW6.out HB7.out.size) (HE.out.below (HB6.out.trans (HB7.out.mono HW6.out))) nmA_ok HDR.out d2 A7 c7 HO7.out.rb (fun _ y hy => by
        have h1 := (HO7.out.blk_in y hy).1
        exact ⟨fun hs => by have := HS6.out y hs; omega, fun e => by have := HQ6.out; omega⟩) (by rw [HD2.out]; exact HLB.out) HDN.out HDL.out (by rw [HD2.out]; have := HLB.out; have := HDF.out; omega)).mono ?_))
  rintro e w8 ⟨rfl, S8, V8, cv8, O8, co8, hr8, hn8, hm8, _⟩
  have hd2 := HD2.out
  subst hd2
  have HB8 : Hid (Below w.heap.size w w8) := Lib.hid (Mods.old (HB6.out.trans (HB7.out.mono HW6.out)) hm8 (Nat.le_trans HW6.out HB7.out.size) (fun i _ h => by
    rcases h with h | h
    · exact HY6.out.sge i h
    · rw [h]; exact HY6.out.ge))
  obtain ⟨Db, hDb⟩ : ∃ Db : DSt, Db = { Da with sure := fset Da.sure (fileN nmA 1) (frameB d2), unsure := [] } := ⟨_, rfl⟩
  rw [← hDb] at hr8
  have hDs : Db.sure = fset [(fileN nmAB 1, frameB d1)] (fileN nmA 1) (frameB d2) := by rw [hDb, HDa.out]
  have hDu : Db.unsure = [] := by rw [hDb]
  have hcnt : Db.cnt ≤ 1000000 := by
    unfold DSt.cnt
    rw [hDs, hDu]
    have := two_len d1 d2
    simp only [List.length_nil]
    omega
  have FA := Lib.hid (diskFallC mask torn hr8.di hcnt HM.out HT.out)
  have hFs : (fallD Db mask torn).sure = fset [(fileN nmAB 1, frameB d1)] (fileN nmA 1) (frameB d2) := by rw [fall_none hDu, hDs]
  have hFr : Rest (fallD Db mask torn) := fall_rest _ _ _
  have HAG := Lib.hid (two_again HLA.out HLB.out hFr hFs)
  have HFR := Lib.hid hFr
  generalize fallD Db mask torn = Dc at *
  have HS8 : Hid (∀ x, S8 x → w.heap.size ≤ x) := Lib.hid hr8.sge
  clear hr8 hn8 hm8 hDb hDs hDu hcnt hFs hFr HY6 HB7 HO7 HA6 HB6 HW6 HS6 HQ6 HD2 HDa
  go_wp2_with (go_at_call 17; refine FA.out.mono ?_)
  rintro e w9 ⟨rfl, hd9, hm9⟩
  have HB9 : Hid (Below w.heap.size w w9) := Lib.hid (Mods.old HB8.out hm9 HB8.out.size (fun i _ h => HS8.out i h))
  have HS9 : Hid (∀ x, Sx S8 w8 w9 x → w.heap.size ≤ x) := Lib.hid (fun x hx => by
    rcases hx with hx | hx
    · exact HS8.out x hx
    · exact Nat.le_trans HB8.out.size hx.1)
  have OA := Lib.hid (srOpen (b := nmAB) (B := w.heap.size) hd9 HS9.out HB9.out.size (HE.out.below HB9.out) nmAB_ok HFR.out HAG.out.2.1 HAG.out.2.2.1 (HAG.out.2.2.2 _ nmAB_ok) HAG.out.1.1)
  unfold OpenEnd at OA
  clear hd9 hm9 FA HS8 HB8
  go_wp2_with (go_at_call 10; refine OA.out.mono ?_)
  rintro e wa ⟨pa, Sa, Va, cva, Oa, coa, rfl, hra, hna, hma, hpa⟩
  have HBa : Hid (Below w.heap.size w wa) := Lib.hid (Mods.old HB9.out hma HB9.out.size (fun i _ h => HS9.out i h))
  have HRa := Lib.hid hra
  have OB' := Lib.hid (srOpen (b := nmA) (B := w.heap.size) hra.di hra.sge HBa.out.size (HE.out.below HBa.out) nmA_ok HFR.out HAG.out.2.1 HAG.out.2.2.1 (HAG.out.2.2.2 _ nmA_ok) HAG.out.1.2.1)
  unfold OpenEnd at OB'
  clear hra hna hma hpa OA HB9 HS9
  go_wp2_with (go_at_call 10; refine OB'.out.mono ?_)
  rintro e wb ⟨pb, Sb, Vb, cvb, Ob, cob, rfl, hrb, hnb, hmb, hpb⟩
  have HBb : Hid (Below w.heap.size w wb) := Lib.hid (Mods.old HBa.out hmb HBa.out.size (fun i _ h => HRa.out.sge i h))
  have HRa2 := Lib.hid (HRa.out.other HBa.out.size hrb hnb hmb HRa.out.ps HRa.out.vs HRa.out.os)
  have HRb := Lib.hid hrb
  have OC := Lib.hid (srOpen (b := nmABC) (B := w.heap.size) hrb.di hrb.sge HBb.out.size (HE.out.below HBb.out) nmABC_ok HFR.out HAG.out.2.1 HAG.out.2.2.1 (HAG.out.2.2.2 _ nmABC_ok) HAG.out.1.2.2)
  unfold OpenEnd at OC
  clear hrb hnb hmb hpb OB' HBa HRa
  go_wp2_with (go_at_call 10; refine OC.out.mono ?_)
  rintro e wc ⟨pc, Sd, Vc, cvc, Oc, coc, rfl, hrc, hnc, hmc, hpc⟩
  have HBc : Hid (Below w.heap.size w wc) := Lib.hid (Mods.old HBb.out hmc HBb.out.size (fun i _ h => HRb.out.sge i h))
  have HRa3 := Lib.hid (HRa2.out.other HBb.out.size hrc hnc hmc HRa2.out.ps HRa2.out.vs HRa2.out.os)
  have HRb3 := Lib.hid (HRb.out.other HBb.out.size hrc hnc hmc HRb.out.ps HRb.out.vs HRb.out.os)
  have HRc3 := Lib.hid hrc
  clear hrc hnc hmc hpc OC HBb HRa2 HRb HFR HAG
  have QA := Lib.hid (lawHasR (v := some d1) HRa3.out rfl rfl rfl (by have := HLA.out; show d1.length ≤ _; omega) d1 A1 c1 (H1.out.below HBc.out) true)
  rw [show hasV (some d1) d1 true = true from by simp [hasV]] at QA
  go_wp2_with (go_at_call 14; refine QA.out.mono ?_)
  first | rintro e wd ⟨rfl, bd⟩ | rintro e wd rfl bd
  have HBd := Lib.hid (HBc.out.trans (bd.mono HBc.out.size))
  have QB := Lib.hid (lawHasR (v := some d2) (HRb3.out.below bd) rfl rfl rfl (by have := HLB.out; show d2.length ≤ _; omega) d2 A2 c2 (H2.out.below HBd.out) true)
  rw [show hasV (some d2) d2 true = true from by simp [hasV]] at QB
  have HRc4 := Lib.hid (HRc3.out.below bd)
  clear bd QA HRa3 HRb3 HRc3
  go_wp2_with (go_at_call 14; refine QB.out.mono ?_)
  first | rintro e we ⟨rfl, be⟩ | rintro e we rfl be
  have HBe := Lib.hid (HBd.out.trans (be.mono HBd.out.size))
  have QC := Lib.hid (lawHasR (v := none) (HRc4.out.below be) rfl rfl rfl (by show ([] : List UInt8).length ≤ _; simp) [] none 0 RB.nil false)
  rw [show hasV none [] false = true from by simp [hasV]] at QC
  clear be QB HRc4
  go_wp2_with (go_at_call 14; refine QC.out.mono ?_)
  first | rintro e wf ⟨rfl, bf⟩ | rintro e wf rfl bf
  have HBf := Lib.hid (HBe.out.trans (bf.mono HBe.out.size))
  clear bf QC
  go_wp2_with fail
  go_ret
  exact ⟨rfl, HBf.out⟩
theorem walkSlotTwo (A1 : Option Addr) (c1 : Nat) (la : List UInt8) (A2 : Option Addr) (c2 : Nat) (lb : List UInt8) (mask torn : Int) (w : World) (h1 : RB w A1 la) (hla : la.length ≤ 140737488351232) (h2 : RB w A2 lb) (hlb : lb.length ≤ 140737488351232) (hm : 0 ≤ mask ∧ mask ≤ 18446744073709551615) (ht : -9223372036854775808 ≤ torn ∧ torn ≤ 9223372036854775807) (hl : laidMetH Tryz.prog Rows.slotTwoRow.laid w) :
    Calls Tryz.prog 6 #[.slice A1 la.length c1, .slice A2 lb.length c2, .int .u64 mask, .int .i64 torn] w fun e w' => e = .returned (.bool true) ∧ Below w.heap.size w w' := by
  obtain ⟨m, rfl⟩ : ∃ m : Nat, mask = (m : Int) := ⟨mask.toNat, by omega⟩
  exact walkSlotTwo' A1 c1 la A2 c2 lb m torn w h1 h2 hla hlb (by omega) ht (senv_of hl (by kernel_rfl) (by simp [Rows.slotTwoRow]) (by simp [Rows.slotTwoRow]) (by simp [Rows.slotTwoRow]))
end Go.Proofs.YtpfamdcdbjaflaaGreatDoor
