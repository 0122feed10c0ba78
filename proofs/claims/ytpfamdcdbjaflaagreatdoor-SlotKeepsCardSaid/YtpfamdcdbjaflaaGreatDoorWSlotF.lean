/- Walk of SlotKeeps. -/
import Derived.Test.YtpfamdcdbjaflaaGreatDoorSlotT
import Derived.OwnWalk
namespace Go.Proofs.YtpfamdcdbjaflaaGreatDoor
open Go.RowKit

/-- Where the first loop stands: the row that was handed in is written over; the slot stays. -/
structure OverAt (B p g : Nat) (S : Nat → Prop) (s : Sl) (D : DSt) (V : Option Addr) (cv : Nat) (O : Option Addr) (co : Nat) (A : Option Addr) (c n : Nat) (w wr : World) : Prop where
  row : ∃ l, l.length = n ∧ OB wr B A c l
  sr : SR B S wr p g s D V cv O co
  bel : Below B w wr
theorem OverAt.step {B p g k c n : Nat} {S : Nat → Prop} {s : Sl} {D : DSt} {V : Option Addr} {cv : Nat} {O : Option Addr} {co : Nat} {A : Option Addr} {w wr : World} (h : OverAt B p g S s D V cv O co A c n w wr) (hk : k < n) (hS : ∀ b, A.map (·.block) = some b → ¬ S b ∧ b ≠ p) (hV : ∀ b, A.map (·.block) = some b → V.map (·.block) ≠ some b) (hB : B ≤ wr.heap.size) :
    ∃ a old, A = some ⟨a, 0, none⟩ ∧ wr.cell? ⟨a, k, none⟩ = some old ∧ wr.frozen? ⟨a, k, none⟩ = false ∧ ∀ (y : UInt8) (v : Int), v = (y.toNat : Int) → OverAt B p g S s D V cv O co A c n w (wr.setCell ⟨a, k, none⟩ (.int .u8 v)) := by
  obtain ⟨l, hl, ho⟩ := h.row
  obtain ⟨a, rfl, hb, hlt, hc, hf, hst⟩ := ho.store (k := k) (by omega)
  refine ⟨a, _, rfl, hc, hf, fun y v hv => ?_⟩
  obtain ⟨o2, _⟩ := hst y v hv
  obtain ⟨n1, n2⟩ := hS a rfl
  have n3 := hV a rfl
  have m : Mods (· = a) wr (wr.setCell ⟨a, k, none⟩ (.int .u8 v)) := (Mods.refl (· = a) wr).setCell ⟨a, _, none⟩ (.inl rfl) _
  have q := h.sr
  refine ⟨⟨l.set k y, by rw [List.length_set]; exact hl, o2⟩, ?_, h.bel.setCell (p := ⟨a, k, none⟩) hb _⟩
  exact ⟨q.blk.mods m (fun e => n2 e.symm), q.di.mods m (fun b _ hs e => n1 (by rw [← e]; exact hs)), q.val.mods m (fun k hk e => n3 (by rw [hk, e])), q.old.mods m (fun k hk e => by
    rw [e] at hk
    obtain ⟨cs, hcs⟩ : ∃ cs, Blk wr a 5 cs := by
      rcases ho.2 with ⟨hv, _⟩ | ⟨g', cap, cur, hv, _, hg, _⟩
      · injection hv with h1 _ _; cases h1
      · injection hv with h1 _ _
        injection h1 with h1
        injection h1 with h1 _ _
        subst h1
        exact ⟨_, hg⟩
    exact q.old.ne_blk hcs (by decide) hk), q.ge, q.sge, q.ps, q.vs, q.os, q.bl, q.on⟩
set_option maxRecDepth 20000 in
set_option maxHeartbeats 8000000 in
theorem walkSlotKeeps' (A1 : Option Addr) (c1 : Nat) (la : List UInt8) (w : World) (h1 : RB w A1 la) (hla : la.length ≤ 140737488351232) (hE : SEnv w.heap.size w) :
    Calls Tryz.prog 4 #[.slice A1 la.length c1] w fun e w' => e = .returned (.bool true) ∧ Below w.heap.size w w' := by
  have HE := Lib.hid hE
  have H1 := Lib.hid h1
  have ND := Lib.hid (diskNew 400000 w (by decide) (by decide))
  clear hE h1
  go_enter Tryz.func4, Tryz.ntmps4
  go_wp2_with (go_at_call 9; refine ND.out.mono ?_)
  first | rintro e w1 ⟨g, rfl, hd, b1⟩ | rintro e w1 g rfl hd b1
  have HB1 := Lib.hid b1
  have OP := Lib.hid (srOpen (b := [118]) hd (fun x hx => hx.1) b1.size (HE.out.below b1) base_v ⟨rfl, rfl, rfl⟩ (by simp [dsk0]) (by simp [dsk0]) (by simp [dsk0]) (open_others ⟨rfl, rfl, rfl⟩ (by simp [dsk0])))
  unfold OpenEnd at OP
  clear hd b1 ND
  go_wp2_with (go_at_call 10; refine OP.out.mono ?_)
  rintro e w2 ⟨p, S1, V1, cv1, O1, co1, rfl, hr1, hn1, hm1, hp1⟩
  have HB2 : Hid (Below w.heap.size w w2) := Lib.hid (Mods.old HB1.out hm1 HB1.out.size (fun i _ h => h.1))
  have HR2 := Lib.hid hr1
  have HE2 := Lib.hid ((HE.out.below HB2.out).up HB2.out.size)
  clear hr1 hn1 hm1 hp1 OP HB1
  go_wp2_with (go_at_call 12; refine (slotAnswers _ HE2.out).mono ?_)
  first | rintro e w4 ⟨rfl, b4⟩ | rintro e w4 rfl b4
  have HB4 := Lib.hid (HB2.out.trans (b4.mono HB2.out.size))
  have HX4 := Lib.hid (HR2.out.below b4)
  have HE4 := Lib.hid ((HE.out.below HB4.out).up HB4.out.size)
  clear b4 HR2 HB2 HE2
  by_cases ha : 65520 < la.length
  · have ha' : (65520 : Int) < (la.length : Int) := by omega
    clear ha
    go_wp2_with (go_at_call 12; refine (slotAnswers _ HE4.out).mono ?_)
    first | rintro e w5 ⟨rfl, b5⟩ | rintro e w5 rfl b5
    have HB5 := Lib.hid (HB4.out.trans (b5.mono HB4.out.size))
    clear b5
    go_wp2_with fail
    go_ret
    exact ⟨rfl, HB5.out⟩
  have ha' : ¬ (65520 : Int) < (la.length : Int) := by omega
  have HLA : Hid (la.length ≤ 65520) := Lib.hid (by omega)
  have HA4 := Lib.hid (H1.out.below HB4.out)
  clear ha HE4
  go_wp2_with (first
    | (at_builtin; refine wp_appendB _ rfl (.tmp 35) (.tmp 36) rfl w4.heap.size _ _ _ _ [] la rfl rfl (OB.made0 _ (Nat.le_refl _)) (HA4.out.alloc _) (by have := HLA.out; simp; omega) (by simp) ?_; intro d1 A5 c5 w5 hd1 hd11 hd12 ho1 hg1; have hB5 : Below w4.heap.size w4 w5 := ((Below.refl _ _).alloc (Nat.le_refl _) _).grown hg1 (by simp) (by simp [Value.ownBlock]); have HB5 := Lib.hid hB5; have HO5 := Lib.hid ho1; have HD1 : Hid (d1 = la) := Lib.hid (by simpa using hd1.out); clear ho1 hg1 hB5 hd1 hd11 hd12)
    | (go_at_call 13; refine (srSave1 (HX4.out.below HB5.out) (Nat.le_trans HB4.out.size HB5.out.size) (HE.out.below (HB4.out.trans (HB5.out.mono HB4.out.size))) base_v ⟨rfl, rfl, rfl⟩ d1 A5 c5 HO5.out.rb (fun _ y hy => by
        have h1 := (HO5.out.blk_in y hy).1
        exact ⟨fun hs => by have := HX4.out.di.bnd y hs; omega, fun e => by have := HX4.out.blk.lt; omega⟩) (by rw [HD1.out]; exact HLA.out) rfl (by simp [dsk0]) (by rw [HD1.out]; have := HLA.out; simp only [dsk0, fsize, List.map_nil, List.sum_nil]; omega)).mono ?_))
  rintro e w6 ⟨rfl, S6, V6, cv6, O6, co6, hr6, hn6, hm6, hv6⟩
  have hd1 := HD1.out
  subst hd1
  obtain ⟨Da, hDa⟩ : ∃ Da : DSt, Da = { dsk0 400000 with sure := fset (dsk0 400000).sure (fileN [118] 1) (frameB d1), unsure := [] } := ⟨_, rfl⟩
  rw [← hDa] at hr6
  clear hDa
  have hs45 : w.heap.size ≤ w5.heap.size := Nat.le_trans HB4.out.size HB5.out.size
  have HB6 : Hid (Below w.heap.size w w6) := Lib.hid (Mods.old (HB4.out.trans (HB5.out.mono HB4.out.size)) hm6 hs45 (fun i _ h => by
    rcases h with h | h
    · exact HX4.out.sge i h
    · rw [h]; exact HX4.out.ge))
  have hb5 := fun y hy => HO5.out.blk_in y hy
  have hy5 : ∀ y, A5.map (·.block) = some y → ¬ S1 y ∧ y ≠ p := fun y hy => by
    have h1 := (hb5 y hy).1
    exact ⟨fun hs => by have := HX4.out.di.bnd y hs; omega, fun e => by have := HX4.out.blk.lt; omega⟩
  have HNS : Hid (∀ b, A5.map (·.block) = some b → ¬ S6 b ∧ b ≠ p) := Lib.hid fun b hb => by
    refine ⟨fun hs => ?_, (hy5 b hb).2⟩
    rcases hn6 b hs with h | h
    · exact (hy5 b hb).1 h
    · have := (hb5 b hb).2; omega
  have HNV : Hid (∀ b, A5.map (·.block) = some b → V6.map (·.block) ≠ some b) := Lib.hid fun b hb e => by
    rcases hv6 b e with h | h
    · have h2 := (HX4.out.val.blk_in b h).2
      have := (hb5 b hb).1
      omega
    · have := (hb5 b hb).2; omega
  have ho6 := (HO5.out.mods hm6 (fun b hb h => by
    rcases h with h | h
    · exact (hy5 b hb).1 h
    · exact (hy5 b hb).2 h)).base_le HB4.out.size
  have HOV : Hid (OverAt w.heap.size p g S6 ⟨[118], 1, d1, true, [fileN [118] 1], false⟩ Da V6 cv6 O6 co6 A5 c5 d1.length w w6) := Lib.hid ⟨⟨d1, rfl, ho6⟩, hr6, HB6.out⟩
  have hcap := ho6.cap
  clear hr6 hn6 hm6 hv6 hs45 hb5 hy5 ho6 HX4 HB5 HO5 HA4 HB4 HB6 HD1
  go_wp2_with fail
  go_loopw [9] (fun s9 wr => ∃ k : Nat, k ≤ d1.length ∧ s9 = .int .i64 (k : Int) ∧ Hid (OverAt w.heap.size p g S6 ⟨[118], 1, d1, true, [fileN [118] 1], false⟩ Da V6 cv6 O6 co6 A5 c5 d1.length w wr)) (fun s9 _ => d1.length - (intOf s9).toNat)
  case atStart => exact ⟨0, Nat.zero_le _, rfl, HOV⟩
  case round =>
    clear HOV
    obtain ⟨k, hk, rfl, HK⟩ := hrel
    by_cases hlt : k < d1.length
    · obtain ⟨a, old, rfl, hc, hf, hst⟩ := HK.out.step hlt HNS.out HNV.out HK.out.bel.size
      have HN := Lib.hid (hst 99 99 rfl)
      clear hst HK
      go_wp2_with fail
      go_roundw
      case rel => exact ⟨k + 1, by omega, by go_num, HN⟩
      case measure => simp [intOf]; omega
    · obtain rfl : k = d1.length := by omega
      have LD := Lib.hid (slotLoad HK.out.sr (by show d1.length ≤ _; have := HLA.out; omega))
      unfold LoadEnd at LD
      rw [show loadE (⟨[118], 1, d1, true, [fileN [118] 1], false⟩ : Sl) = 0 from rfl, show loadB (⟨[118], 1, d1, true, [fileN [118] 1], false⟩ : Sl) = d1 from rfl] at LD
      go_wp2_with (go_at_call 11; refine LD.out.mono ?_)
      first | rintro e w8 ⟨A8, c8, rfl, ho8, b8⟩ | rintro e w8 A8 c8 rfl ho8 b8
      have HB8 := Lib.hid (HK.out.bel.trans (b8.mono HK.out.bel.size))
      have HR8 := Lib.hid (HK.out.sr.below b8)
      have hb8 := fun y hy => ho8.blk_in y hy
      have HNS8 : Hid (∀ b, A8.map (·.block) = some b → ¬ S6 b ∧ b ≠ p) := Lib.hid fun b hb => by
        have h1 := (hb8 b hb).1
        exact ⟨fun hs => by have := HK.out.sr.di.bnd b hs; omega, fun e => by have := HK.out.sr.blk.lt; omega⟩
      have HNV8 : Hid (∀ b, A8.map (·.block) = some b → V6.map (·.block) ≠ some b) := Lib.hid fun b hb e => by
        have h1 := (hb8 b hb).1
        have h2 := (HK.out.sr.val.blk_in b e).2
        omega
      have HOV8 : Hid (OverAt w.heap.size p g S6 ⟨[118], 1, d1, true, [fileN [118] 1], false⟩ Da V6 cv6 O6 co6 A8 c8 d1.length w w8) := Lib.hid ⟨⟨d1, rfl, ho8.base_le HK.out.bel.size⟩, HR8.out, HB8.out⟩
      have k1 := convB c8 ho8.rb
      have k2 := convB c1 (H1.out.below HB8.out)
      have hcap8 := ho8.cap
      clear HK LD ho8 b8 hb8 HNS HNV HR8 HB8
      go_wp2_with fail
      clear k1 k2
      go_loopw [13] (fun s9 wr => ∃ k : Nat, k ≤ d1.length ∧ s9 = .int .i64 (k : Int) ∧ Hid (OverAt w.heap.size p g S6 ⟨[118], 1, d1, true, [fileN [118] 1], false⟩ Da V6 cv6 O6 co6 A8 c8 d1.length w wr)) (fun s9 _ => d1.length - (intOf s9).toNat)
      case atStart => exact ⟨0, Nat.zero_le _, rfl, HOV8⟩
      case round =>
        clear HOV8
        obtain ⟨k, hk, rfl, HK⟩ := hrel
        by_cases hlt : k < d1.length
        · obtain ⟨a, old, rfl, hc, hf, hst⟩ := HK.out.step hlt HNS8.out HNV8.out HK.out.bel.size
          have HN := Lib.hid (hst 98 98 rfl)
          clear hst HK
          go_wp2_with fail
          go_roundw
          case rel => exact ⟨k + 1, by omega, by go_num, HN⟩
          case measure => simp [intOf]; omega
        · obtain rfl : k = d1.length := by omega
          have HB9 := Lib.hid HK.out.bel
          have QA := Lib.hid (lawHasR (v := some d1) HK.out.sr rfl rfl rfl (by have := HLA.out; show d1.length ≤ _; omega) d1 A1 c1 (H1.out.below HB9.out) true)
          rw [show hasV (some d1) d1 true = true from by simp [hasV]] at QA
          clear HK
          go_wp2_with (go_at_call 14; refine QA.out.mono ?_)
          first | rintro e wd ⟨rfl, bd⟩ | rintro e wd rfl bd
          have HBd := Lib.hid (HB9.out.trans (bd.mono HB9.out.size))
          clear bd QA
          go_wp2_with fail
          go_ret
          exact ⟨rfl, HBd.out⟩
theorem walkSlotKeeps (A1 : Option Addr) (c1 : Nat) (la : List UInt8) (w : World) (h1 : RB w A1 la) (hla : la.length ≤ 140737488351232) (hl : laidMetH Tryz.prog Rows.slotKeepsRow.laid w) :
    Calls Tryz.prog 4 #[.slice A1 la.length c1] w fun e w' => e = .returned (.bool true) ∧ Below w.heap.size w w' :=
  walkSlotKeeps' A1 c1 la w h1 hla (senv_of hl (by kernel_rfl) (by simp [Rows.slotKeepsRow]) (by simp [Rows.slotKeepsRow]) (by simp [Rows.slotKeepsRow]))
end Go.Proofs.YtpfamdcdbjaflaaGreatDoor
