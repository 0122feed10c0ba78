/- Walk of SlotRoom. -/
import Derived.Test.YtpfamdcdbjaflaaGreatDoorSlotL
import Derived.Test.YtpfamdcdbjaflaaGreatDoorOpApp
namespace Go.Proofs.YtpfamdcdbjaflaaGreatDoor
open Go.RowKit

def baseVal : Nm := [118, 97, 108]
theorem baseVal_ok : BaseOk baseVal := ⟨by decide, by decide⟩
/-- Where the loop of SlotRoom stands. -/
structure RoomAt (w : World) (p g k : Nat) (wr : World) : Prop where
  live : ∃ S v D, Live w.heap.size S p g baseVal v k D wr ∧ D.fuse = 0 ∧ D.room = 4000000
  bel : Below w.heap.size w wr
theorem used_le {B : Nat} {S : Nat → Prop} {p g m : Nat} {b : Nm} {v : Option (List UInt8)} {D : DSt} {w : World} (h : Live B S p g b v m D w) : fsize D.files ≤ 65528 := by
  rw [h.used]
  obtain ⟨s, V, cv, O, co, h1, h2, _⟩ := h
  rcases h2.files with ⟨e, _⟩ | ⟨x, n, e, hx, _⟩
  · rw [e]; decide
  · rw [e]; simp only [usedV]; omega
theorem live_names {B : Nat} {S : Nat → Prop} {p g m : Nat} {b : Nm} {v : Option (List UInt8)} {D : DSt} {w : World} (h : Live B S p g b v m D w) : namesD D = D.files.map Prod.fst := by
  obtain ⟨s, V, cv, O, co, h1, h2, _⟩ := h
  unfold namesD
  rw [if_neg (by rw [h2.dd]; simp)]
set_option maxRecDepth 20000 in
set_option maxHeartbeats 8000000 in
theorem walkSlotRoom' (A : Option Addr) (c : Nat) (L : List (Option Addr × Nat × List UInt8)) (w : World) (h : RBB w A L) (hL : L.length ≤ 9223372036854775807) (hE : SEnv w.heap.size w) :
    Calls Tryz.prog 5 #[.slice A L.length c] w fun e w' => e = .returned (.bool true) ∧ Below w.heap.size w w' := by
  have HE := Lib.hid hE
  have HR := Lib.hid h
  have ND := Lib.hid (diskNew 4000000 w (by decide) (by decide))
  clear hE h
  go_enter Tryz.func5, Tryz.ntmps5
  go_wp2_with (go_at_call 9; refine ND.out.mono ?_)
  first | rintro e w1 ⟨g, rfl, hd, b1⟩ | rintro e w1 g rfl hd b1
  have HB1 := Lib.hid b1
  have hO := open_new (b := baseVal) (D := dsk0 4000000) ⟨rfl, rfl, rfl⟩ rfl
  have OP := Lib.hid (liveOpen (b := baseVal) hd (fun x hx => hx.1) b1.size (HE.out.below b1) baseVal_ok hO)
  have HF := Lib.hid hO.fuse
  have HRO := Lib.hid hO.room
  generalize (openD baseVal (dsk0 4000000)).2 = D0 at *
  unfold baseVal at OP
  clear hd b1 ND hO
  go_wp2_with (go_at_call 10; refine OP.out.mono ?_)
  rintro e w2 ⟨p, S', rfl, hl, hn, hm, hp⟩
  have HB2 : Hid (Below w.heap.size w w2) := Lib.hid (Mods.old HB1.out hm HB1.out.size (fun i _ h => h.1))
  have HL := Lib.hid hl
  have HE2 := Lib.hid ((HE.out.below HB2.out).up HB2.out.size)
  clear hl hn hm OP HB1
  go_wp2_with (go_at_call 12; refine (slotAnswers _ HE2.out).mono ?_)
  first | rintro e w3 ⟨rfl, b3⟩ | rintro e w3 rfl b3
  have HB3 := Lib.hid (HB2.out.trans (b3.mono HB2.out.size))
  have HA : Hid (RoomAt w p g 0 w3) := Lib.hid ⟨⟨S', none, D0, HL.out.below b3, HF.out, HRO.out⟩, HB3.out⟩
  have HE3 := Lib.hid ((HE.out.below HB3.out).up HB3.out.size)
  clear b3 HB2 HL HE2 HF HRO
  by_cases h30 : 30 < L.length
  · have h30' : (30 : Int) < (L.length : Int) := by omega
    clear h30
    go_wp2_with (go_at_call 12; refine (slotAnswers _ HE3.out).mono ?_)
    first | rintro e w4 ⟨rfl, b4⟩ | rintro e w4 rfl b4
    have HB4 := Lib.hid (HB3.out.trans (b4.mono HB3.out.size))
    clear b4
    go_wp2_with fail
    go_ret
    exact ⟨rfl, HB4.out⟩
  · have h30' : ¬ (30 : Int) < (L.length : Int) := by omega
    clear HE3 HB3
    go_wp2_with fail
    go_loopw [7] (fun s7 wr => ∃ k : Nat, k ≤ L.length ∧ s7 = .int .i64 (k : Int) ∧ Hid (RoomAt w p g k wr)) (fun s7 _ => L.length - (intOf s7).toNat)
    case atStart => exact ⟨0, Nat.zero_le _, rfl, HA⟩
    case round =>
      clear HA
      obtain ⟨k, hk, rfl, HK⟩ := hrel
      by_cases hlt : k < L.length
      · have hki : (k : Int) < (L.length : Int) := by omega
        have hki0 : (0 : Int) ≤ (k : Int) := by omega
        obtain ⟨ob, off, rfl, hbl, hc0⟩ := HR.out.cell hlt
        have hrb := HR.out.each _ (List.getElem_mem hlt)
        obtain ⟨⟨Y, cy, x⟩, hx⟩ : ∃ t, t = L[k] := ⟨_, rfl⟩
        rw [← hx] at hc0 hrb
        simp only at hc0 hrb
        have hc : wr.cell? ⟨ob, off + k, none⟩ = some (.slice Y x.length cy) := (HK.out.bel.cell (p := ⟨ob, off + k, none⟩) hbl).trans hc0
        have HC0 := Lib.hid hc0
        have HBL := Lib.hid hbl
        obtain ⟨hrb1, hrb2⟩ := hrb
        have HX := Lib.hid hrb1
        clear hx hrb1 hbl hc0
        by_cases hbig : 65520 < x.length
        · have hbig' : (65520 : Int) < (x.length : Int) := by omega
          have HB := Lib.hid HK.out.bel
          clear HK hbig
          go_wp2_with fail
          go_ret
          exact ⟨rfl, HB.out⟩
        · have hbig' : ¬ (65520 : Int) < (x.length : Int) := by omega
          have hxl : x.length ≤ 65520 := by omega
          clear hbig
          go_wp2_with fail
          refine wp_region_planE_gen (by kernel_rfl) [(0, none), (2, none), (3, none), (4, none), (5, none), (1, some []), (6, some [5]), (7, some [0]), (8, none), (9, none), (10, none), (12, none), (13, none), (14, none), (15, none), (16, none), (17, none), (11, some [9, 10]), (18, none), (19, none)] (by kernel_rfl) (by kernel_rfl) (by decide) ?_
          intro wq hwq
          have hBq : Below wr.heap.size wr wq := by rw [hwq]; exact (Below.refl _ _).drew
          obtain ⟨⟨S, v, D, q1, q2, q3⟩, q4⟩ := HK.out
          have HLq := Lib.hid (q1.below hBq)
          have hbq := q4.trans (hBq.mono q4.size)
          have hk1 : k ≤ 1000000 := by omega
          have hus := used_le q1
          have y1 : wq.cell? ⟨ob, off + k, none⟩ = some (.slice Y x.length cy) := (hbq.cell (p := ⟨ob, off + k, none⟩) HBL.out).trans HC0.out
          clear hwq hBq HK hc q1 q4
          iterate 4 (refine planE_pure (v := ?_) rfl (by rfl) (fun w' => ?_) ?_; rotate_left; (focus (simp only [List.getElem_toArray, List.getElem_cons_succ, List.getElem_cons_zero]; go_simp; first | with_reducible rfl | (simp (disch := omega) only [if_pos, if_neg, dif_pos, Result.andThen_ok]; try with_reducible rfl) | skip)); try simp only [List.getElem_toArray, List.getElem_cons_succ, List.getElem_cons_zero, Act.put, List.setIfInBounds_toArray, List.set_cons_zero, List.set_cons_succ])
          refine planE_cells (v := ?_) [(⟨ob, off + k, none⟩, .slice Y x.length cy)] (by simp; and_intros <;> assumption) rfl (by rfl) (fun w' hw' => ?_) ?_; rotate_left; (focus (simp only [List.forall_mem_cons, List.not_mem_nil, false_imp_iff, implies_true, and_true] at hw'; simp only [List.getElem_toArray, List.getElem_cons_succ, List.getElem_cons_zero]; go_simp; first | with_reducible rfl | (simp (disch := omega) only [if_pos, if_neg, dif_pos, Result.andThen_ok]; try with_reducible rfl) | skip)); try simp only [List.getElem_toArray, List.getElem_cons_succ, List.getElem_cons_zero, Act.put, List.setIfInBounds_toArray, List.set_cons_zero, List.set_cons_succ]
          refine planE_eff rfl (by rfl) (fun K hK => ?_)
          go_simp
          have hqa : Below wq.heap.size wq (wq.alloc (.cells #[] 5)) := (Below.refl _ _).alloc (Nat.le_refl _) _
          have hO2 := OB.made0 wq (Nat.le_refl wq.heap.size)
          have hlq := HLq.out.lt
          have HSq := Lib.hid HLq.out.di.bnd
          obtain ⟨eb, heb⟩ : ∃ eb, eb = wq.heap.size := ⟨_, rfl⟩
          have hes : eb ≤ (wq.alloc (.cells #[] 5)).heap.size := by rw [heb]; exact hqa.size
          have hwe : w.heap.size ≤ eb := by rw [heb]; exact hbq.size
          have HEB := Lib.hid heb
          rw [← heb] at hO2 HSq hlq ⊢
          generalize wq.alloc (.cells #[] 5) = wa at *
          clear y1 heb
          have y1 : wa.cell? ⟨ob, off + k, none⟩ = some (.slice Y x.length cy) := ((hbq.trans (hqa.mono hbq.size)).cell (p := ⟨ob, off + k, none⟩) HBL.out).trans HC0.out
          refine hK _ _ (by simp [owed, left] <;> (and_intros <;> first | trivial | assumption)) ?_
          clear hK K
          try simp only [List.getElem_toArray, List.getElem_cons_succ, List.getElem_cons_zero, Act.put, List.setIfInBounds_toArray, List.set_cons_zero, List.set_cons_succ]
          refine planE_eff rfl (by rfl) (fun K hK => ?_)
          refine op_appendB wa (.tmp 44) (.tmp 48) (by rfl) eb (some ⟨eb, 0, none⟩) Y 0 cy [] x (by rfl) (by rfl) hO2 (HX.out.below (hbq.trans (hqa.mono hbq.size))) (by simp; omega) hes ?_
          intro d8 A8 c8 wb hd8 hd81 hd82 ho8 hg8
          have HE8 : Hid (d8 = x) := Lib.hid (by simpa using hd8.out)
          have hd8l : d8.length ≤ x.length := by simpa using hd81
          have hd8g : x.length ≤ d8.length := by simpa using hd82
          have hqb : Below wq.heap.size wq wb := by
            rw [← HEB.out] at hqa ⊢
            refine ⟨hg8.os.trans hqa.os, hg8.tape.trans hqa.tape, hg8.output.trans hqa.output, Nat.le_trans hqa.size hg8.size, fun i hi => (hg8.block i (by omega) (by simp [Value.ownBlock]; omega)).trans (hqa.block i hi)⟩
          have HLb := Lib.hid (HLq.out.below hqb)
          have hbb : Below w.heap.size w wb := hbq.trans (hqb.mono hbq.size)
          have HO8 := Lib.hid ho8
          have hsb : w.heap.size ≤ wb.heap.size := hbb.size
          clear y1 hd8 hd81 hd82 ho8 hg8 hO2 HLq hqa hqb hes hbq
          have y1 : wb.cell? ⟨ob, off + k, none⟩ = some (.slice Y x.length cy) := (hbb.cell (p := ⟨ob, off + k, none⟩) HBL.out).trans HC0.out
          refine hK _ _ (by simp [owed, left] <;> (and_intros <;> first | trivial | assumption)) ?_
          clear hK K
          try simp only [List.getElem_toArray, List.getElem_cons_succ, List.getElem_cons_zero, Act.put, List.setIfInBounds_toArray, List.set_cons_zero, List.set_cons_succ]
          refine planE_eff rfl (by rfl) (fun K hK => ?_)
          go_simp
          refine (liveSave HLb.out hsb (HE.out.below hbb) baseVal_ok d8 A8 c8 HO8.out.rb (fun _ y hy => by
            have h1 := (HO8.out.blk_in y hy).1
            refine ⟨fun hs => ?_, fun e => by omega⟩
            have h2 := HSq.out y hs
            omega) (by omega) hk1 q2 (by rw [q3]; omega)).mono ?_
          rintro e w9 ⟨S9, D9, rfl, hl9, hn9, hm9, hf9, hr9, nn, hnn, hfi9⟩
          have hb9 : Below w.heap.size w w9 := Mods.old hbb hm9 hsb (fun i _ h => by
            rcases h with h | h
            · exact HLb.out.sge i h
            · subst h; exact HLb.out.ge)
          have HL9 := Lib.hid hl9
          have hus9 := hl9.used
          have HFI := Lib.hid hfi9
          have hr9' : D9.room = 4000000 := by rw [hr9, q3]
          clear y1 hl9 hn9 hm9 HLb HO8 HSq hbb hsb hfi9 hr9
          have y1 : w9.cell? ⟨ob, off + k, none⟩ = some (.slice Y x.length cy) := (hb9.cell (p := ⟨ob, off + k, none⟩) HBL.out).trans HC0.out
          refine hK _ _ (by simp [owed, left] <;> (and_intros <;> first | trivial | assumption)) ?_
          clear hK K
          try simp only [List.getElem_toArray, List.getElem_cons_succ, List.getElem_cons_zero, Act.put, List.setIfInBounds_toArray, List.set_cons_zero, List.set_cons_succ]
          iterate 6 (refine planE_pure (v := ?_) rfl (by rfl) (fun w' => ?_) ?_; rotate_left; (focus (simp only [List.getElem_toArray, List.getElem_cons_succ, List.getElem_cons_zero]; go_simp; first | with_reducible rfl | (simp (disch := omega) only [if_pos, if_neg, dif_pos, Result.andThen_ok]; try with_reducible rfl) | skip)); try simp only [List.getElem_toArray, List.getElem_cons_succ, List.getElem_cons_zero, Act.put, List.setIfInBounds_toArray, List.set_cons_zero, List.set_cons_succ])
          refine planE_cells (v := ?_) [(⟨ob, off + k, none⟩, .slice Y x.length cy)] (by simp; and_intros <;> assumption) rfl (by rfl) (fun w' hw' => ?_) ?_; rotate_left; (focus (simp only [List.forall_mem_cons, List.not_mem_nil, false_imp_iff, implies_true, and_true] at hw'; simp only [List.getElem_toArray, List.getElem_cons_succ, List.getElem_cons_zero]; go_simp; first | with_reducible rfl | (simp (disch := omega) only [if_pos, if_neg, dif_pos, Result.andThen_ok]; try with_reducible rfl) | skip)); try simp only [List.getElem_toArray, List.getElem_cons_succ, List.getElem_cons_zero, Act.put, List.setIfInBounds_toArray, List.set_cons_zero, List.set_cons_succ]
          iterate 2 (refine planE_pure (v := ?_) rfl (by rfl) (fun w' => ?_) ?_; rotate_left; (focus (simp only [List.getElem_toArray, List.getElem_cons_succ, List.getElem_cons_zero]; go_simp; first | with_reducible rfl | (simp (disch := omega) only [if_pos, if_neg, dif_pos, Result.andThen_ok]; try with_reducible rfl) | skip)); try simp only [List.getElem_toArray, List.getElem_cons_succ, List.getElem_cons_zero, Act.put, List.setIfInBounds_toArray, List.set_cons_zero, List.set_cons_succ])
          refine planE_eff rfl (by rfl) (fun K hK => ?_)
          go_simp
          refine (diskUsedC HL9.out.di (by have := HL9.out.files.2; omega)).mono ?_
          rintro e w10 ⟨rfl, b10⟩
          rw [hus9]
          have HL10 := Lib.hid (HL9.out.below b10)
          have hb10 := hb9.trans (b10.mono hb9.size)
          have hcmp : ¬ (x.length : Int) + 64 < ((usedV (some d8) : Nat) : Int) := by
            have : usedV (some d8) = d8.length + 8 := rfl
            rw [this]; omega
          have hw64 : IntKind.i64.wrap ((x.length : Int) + 64) = (x.length : Int) + 64 := IntWalk.i64_in _ (by omega)
          clear y1 b10 HL9 hb9 hus9
          have y1 : w10.cell? ⟨ob, off + k, none⟩ = some (.slice Y x.length cy) := (hb10.cell (p := ⟨ob, off + k, none⟩) HBL.out).trans HC0.out
          refine hK _ _ (by simp [owed, left] <;> (and_intros <;> first | trivial | assumption)) ?_
          clear hK K
          try simp only [List.getElem_toArray, List.getElem_cons_succ, List.getElem_cons_zero, Act.put, List.setIfInBounds_toArray, List.set_cons_zero, List.set_cons_succ]
          iterate 2 (refine planE_pure (v := ?_) rfl (by rfl) (fun w' => ?_) ?_; rotate_left; (focus (simp only [List.getElem_toArray, List.getElem_cons_succ, List.getElem_cons_zero]; go_simp; first | with_reducible rfl | (simp (disch := omega) only [if_pos, if_neg, dif_pos, Result.andThen_ok]; try with_reducible rfl) | skip)); try simp only [List.getElem_toArray, List.getElem_cons_succ, List.getElem_cons_zero, Act.put, List.setIfInBounds_toArray, List.set_cons_zero, List.set_cons_succ])
          refine planE_end ?_
          generalize usedV (some d8) = us at *
          obtain ⟨f, hf⟩ : ∃ f, f = fileN baseVal nn := ⟨_, rfl⟩
          obtain ⟨ds, hds⟩ : ∃ ds, f = 118 :: 97 :: 108 :: 46 :: ds := ⟨_, by rw [hf]; rfl⟩
          have hfl : f.length ≤ 29 := by rw [hf]; exact fileN_len baseVal_ok hnn
          have hnames := live_names HL10.out
          rw [HFI.out] at hnames
          simp only [List.map_cons, List.map_nil] at hnames
          rw [← hf] at hnames
          have NM := Lib.hid (diskNamesC HL10.out.di (by have := HL10.out.files.2; omega) (fun q hq => by
            rw [HFI.out] at hq
            rw [List.mem_singleton.1 hq]
            simp only
            rw [← hf]; omega))
          rw [hnames] at NM
          have hb10' := Lib.hid hb10
          have hfl4 : ¬ ((f.length : Int) < 4) := by rw [hds]; simp only [List.length_cons]; omega
          have HDS := Lib.hid hds
          clear hnames hf y1 hb10 hds
          go_wp2_with (go_at_call 16; refine NM.out.mono ?_)
          rintro e w11 ⟨A', c', rfl, ho, hb⟩
          have HB11 := Lib.hid (hb10'.out.trans (hb.mono hb10'.out.size))
          have HN : Hid (RoomAt w p g (k + 1) w11) := Lib.hid ⟨⟨S9, some d8, D9, HL10.out.below hb, hf9, hr9'⟩, HB11.out⟩
          have hc1 := ho.rv.cell (j := 0) (by simp)
          obtain ⟨nb, off2, rfl, _, hcn⟩ := hc1
          have hcn' : w11.cell? ⟨nb, off2, none⟩ = some (.string ⟨f.toArray⟩) := hcn
          have HNC := Lib.hid hcn'
          have hcap := ho.cap
          simp only [List.length_map, List.length_cons, List.length_nil] at hcap
          clear NM hb ho hcn hcn' HL10 hb10' HFI
          go_wp2_with fail
          go_loopw [9] (fun s9 wr => ∃ j : Nat, j ≤ 1 ∧ s9 = .int .i64 (j : Int) ∧ wr = w11) (fun s9 _ => 1 - (intOf s9).toNat)
          case atStart => exact ⟨0, Nat.zero_le _, rfl, rfl⟩
          case round =>
            obtain ⟨j, hj, rfl, rfl⟩ := hrel
            by_cases hj0 : j < 1
            · obtain rfl : j = 0 := by omega
              have hcc := HNC.out
              have hext : (((⟨f.toArray⟩ : ByteArray).extract 0 4).toList == [118, 97, 108, 46]) = true := by
                rw [HDS.out, ByteArray.extract_mk, Lib.toList_data]; rfl
              go_wp2_with fail
              go_roundw
              case rel => exact ⟨1, by omega, rfl, by first | rfl | trivial⟩
              case measure => simp [intOf]
            · obtain rfl : j = 1 := by omega
              go_wp2_with fail
              go_roundw
              case rel => exact ⟨k + 1, by omega, by go_num, HN⟩
              case measure => simp [intOf]; omega
      · obtain rfl : k = L.length := by omega
        have HB := Lib.hid HK.out.bel
        clear HK
        go_wp2_with fail
        go_ret
        exact ⟨rfl, HB.out⟩
theorem walkSlotRoom (A : Option Addr) (c : Nat) (L : List (Option Addr × Nat × List UInt8)) (w : World) (h : RBB w A L) (hL : L.length ≤ 9223372036854775807) (hl : laidMetH Tryz.prog Rows.slotRoomRow.laid w) :
    Calls Tryz.prog 5 #[.slice A L.length c] w fun e w' => e = .returned (.bool true) ∧ Below w.heap.size w w' :=
  walkSlotRoom' A c L w h hL (senv_of hl (by kernel_rfl) (by simp [Rows.slotRoomRow]) (by simp [Rows.slotRoomRow]) (by simp [Rows.slotRoomRow]))
end Go.Proofs.YtpfamdcdbjaflaaGreatDoor
