/- Walk of SlotNames. -/
import Derived.Test.YtpfamdcdbjaflaaGreatDoorSlotL
namespace Go.Proofs.YtpfamdcdbjaflaaGreatDoor
open Go.RowKit

set_option maxRecDepth 20000 in
set_option maxHeartbeats 4000000 in
theorem slotOpen_nil (w : World) : Calls Tryz.prog 10 #[.pointer none, .string ⟨#[97]⟩] w fun e w' => e = .returned (.tuple #[.pointer none, .int .i64 1]) ∧ w = w' := by
  go_enter Tryz.func10, Tryz.ntmps10
  go_wp2_with fail
  go_ret2
  exact ⟨rfl, rfl⟩
set_option maxRecDepth 20000 in
set_option maxHeartbeats 4000000 in
theorem slotOpen_bad (b : List UInt8) (g : Nat) (w : World) (hl : b.length ≤ 9223372036854775807) (hb : ¬ BaseOk b) : Calls Tryz.prog 10 #[.pointer (some ⟨g, 0, none⟩), .string ⟨b.toArray⟩] w fun e w' => e = .returned (.tuple #[.pointer none, .int .i64 1]) ∧ Below w.heap.size w w' := by
  by_cases h0 : b = []
  · subst h0
    clear hb hl
    go_enter Tryz.func10, Tryz.ntmps10
    go_wp2_with fail
    go_ret2
    exact ⟨rfl, Below.refl _ _⟩
  · have hbe : (b == []) = false := beq_eq_false_iff_ne.2 h0
    by_cases h8 : 8 < b.length
    · have h8' : (8 : Int) < (b.length : Int) := by omega
      clear hb h0 h8
      go_enter Tryz.func10, Tryz.ntmps10
      go_wp2_with fail
      go_ret2
      exact ⟨rfl, Below.refl _ _⟩
    · have h8' : (b.length : Int) ≤ 8 := by omega
      have hpos : 1 ≤ b.length := by
        cases b with
        | nil => exact absurd rfl h0
        | cons _ _ => simp
      have htr : Lib.trimS b letters ≠ [] := fun e => hb ⟨⟨hpos, by omega⟩, (trim_letters b).1 e⟩
      have hne : (Lib.trimS b letters == []) = false := beq_eq_false_iff_ne.2 htr
      have TR := Lib.hid (slotTrim b w (by omega))
      generalize Lib.trimS b letters = tr at *
      clear hb h0 h8 htr hpos
      go_enter Tryz.func10, Tryz.ntmps10
      go_wp2_with (go_at_call 19; refine TR.out.mono ?_)
      rintro e w1 ⟨rfl, b1⟩
      have HB := Lib.hid b1
      clear b1 TR
      go_wp2_with fail
      go_ret2
      exact ⟨rfl, HB.out⟩

theorem at_here (s : List UInt8) (n : Nat) (h : n < s.length) (W : World) : (Instr.index 9 (.string ⟨s.toArray⟩) (.int .i64 (n : Int))).run Tryz.prog W = .ok (.int .u8 ((s[n]).toNat : Int)) W := by
  have hsz : (⟨s.toArray⟩ : ByteArray).size = s.length := by simp [ByteArray.size]
  have h3 : n < (⟨s.toArray⟩ : ByteArray).size := by rw [hsz]; exact h
  go_simp
  rfl
def inR (c : UInt8) : Bool := decide (97 ≤ c.toNat) && decide (c.toNat ≤ 122)
def nmAt (l : List UInt8) (k : Nat) : Bool := decide (1 ≤ l.length) && decide (l.length ≤ 8) && (l.take k).all inR
theorem nm_all (l : List UInt8) : nmAt l l.length = true ↔ BaseOk l := by
  unfold nmAt inR BaseOk
  rw [List.take_length, Bool.and_eq_true, Bool.and_eq_true, decide_eq_true_eq, decide_eq_true_eq, List.all_eq_true]
  simp only [Bool.and_eq_true, decide_eq_true_eq]
theorem nm_step (l : List UInt8) {k : Nat} (hk : k < l.length) : nmAt l (k + 1) = (nmAt l k && inR l[k]) := by
  unfold nmAt
  rw [List.take_succ_eq_append_getElem hk, List.all_append]
  simp [Bool.and_assoc]
/-- What Open answers to a name. -/
def NameEnd (w : World) (l : List UInt8) (e : Ending) (w' : World) : Prop :=
  Below w.heap.size w w' ∧ ((nmAt l l.length = true ∧ ∃ p, e = .returned (.tuple #[.pointer (some ⟨p, 0, none⟩), .int .i64 0])) ∨ (nmAt l l.length = false ∧ e = .returned (.tuple #[.pointer none, .int .i64 1])))
theorem openName (l : List UInt8) (g : Nat) (S : Nat → Prop) (w0 w : World) (hb0 : Below w0.heap.size w0 w) (hd : DI S w g (dsk0 400)) (hS : ∀ x, S x → w0.heap.size ≤ x) (hE : SEnv w0.heap.size w) (hl : l.length ≤ 9223372036854775807) :
    Calls Tryz.prog 10 #[.pointer (some ⟨g, 0, none⟩), .string ⟨l.toArray⟩] w fun e w' => Below w0.heap.size w0 w' ∧ ((nmAt l l.length = true ∧ ∃ p, e = .returned (.tuple #[.pointer (some ⟨p, 0, none⟩), .int .i64 0])) ∨ (nmAt l l.length = false ∧ e = .returned (.tuple #[.pointer none, .int .i64 1]))) := by
  cases hn : nmAt l l.length with
  | true =>
    refine (liveOpen (b := l) hd hS hb0.size hE ((nm_all l).1 hn) (open_new ⟨rfl, rfl, rfl⟩ rfl)).mono ?_
    rintro e w' ⟨p, S', rfl, _, _, hm, _⟩
    exact ⟨Mods.old hb0 hm hb0.size (fun i _ h => hS i h), .inl ⟨rfl, p, rfl⟩⟩
  | false =>
    refine (slotOpen_bad l g w hl (fun h => by rw [(nm_all l).2 h] at hn; cases hn)).mono ?_
    rintro e w' ⟨rfl, hb⟩
    exact ⟨hb0.trans (hb.mono hb0.size), .inr ⟨rfl, rfl⟩⟩
set_option maxRecDepth 20000 in
set_option maxHeartbeats 8000000 in
theorem walkSlotNames' (l : List UInt8) (hl : l.length ≤ 9223372036854775807) (w : World) (hE : SEnv w.heap.size w) : Calls Tryz.prog 3 #[.string ⟨l.toArray⟩] w fun e w' => e = .returned (.bool true) ∧ Below w.heap.size w w' := by
  have HE := Lib.hid hE
  have ND := Lib.hid (diskNew 400 w (by decide) (by decide))
  clear hE
  go_enter Tryz.func3, Tryz.ntmps3
  go_wp2_with (go_at_call 9; refine ND.out.mono ?_)
  first | rintro e w1 ⟨g, rfl, hd, b1⟩ | rintro e w1 g rfl hd b1
  have OP := Lib.hid (openName l g (News w w1) w w1 b1 hd (fun x hx => hx.1) (HE.out.below b1) hl)
  clear hd b1 ND
  go_wp2_with (go_at_call 10; refine OP.out.mono ?_)
  intro e w2 hpp
  obtain ⟨b2, hpp⟩ := hpp
  have HB2 := Lib.hid b2
  obtain ⟨ok, hok⟩ : ∃ ok, ok = nmAt l l.length := ⟨_, rfl⟩
  rw [← hok] at hpp
  have HOK := Lib.hid hok
  have hl0 : nmAt l 0 = (decide (1 ≤ l.length) && decide (l.length ≤ 8)) := by unfold nmAt; simp
  have HL0 := Lib.hid hl0
  obtain ⟨sp, er, he, hcase⟩ : ∃ (sp : Value) (er : Int), e = .returned (.tuple #[sp, .int .i64 er]) ∧ ((ok = true ∧ er = 0 ∧ ∃ p, sp = .pointer (some ⟨p, 0, none⟩)) ∨ (ok = false ∧ er = 1 ∧ sp = .pointer none)) := by
    rcases hpp with ⟨h1, p, h2⟩ | ⟨h1, h2⟩
    · exact ⟨_, _, h2, .inl ⟨h1, rfl, p, rfl⟩⟩
    · exact ⟨_, _, h2, .inr ⟨h1, rfl, rfl⟩⟩
  subst he
  have HCS := Lib.hid hcase
  clear hpp hcase hok b2 hl0 OP
  have hlz : (0 : Int) ≤ (l.length : Int) := by omega
  have HM1 : Hid (decide ((1 : Int) ≤ (l.length : Int)) = decide (1 ≤ l.length)) := Lib.hid (by by_cases h : 1 ≤ l.length <;> simp [h] <;> omega)
  by_cases h1 : 1 ≤ l.length
  · have h1' : (1 : Int) ≤ (l.length : Int) := by omega
    by_cases h8 : l.length ≤ 8
    · have h8' : (l.length : Int) ≤ 8 := by omega
      have HL1 : Hid (nmAt l 0 = true) := Lib.hid (by rw [HL0.out, decide_eq_true h1, decide_eq_true h8]; rfl)
      clear HL0 HM1
      go_wp2_with fail
      go_loopw [7, 8] (fun s7 s8 wr => ∃ k : Nat, k ≤ l.length ∧ s8 = .int .i64 (k : Int) ∧ s7 = .bool (nmAt l k) ∧ wr = w2) (fun _ s8 _ => l.length - (intOf s8).toNat)
      case atStart => exact ⟨0, Nat.zero_le _, rfl, by (try rw [HL1.out]) <;> first | rfl | simp [h8'], by first | rfl | trivial⟩
      case round =>
        obtain ⟨k, hk, rfl, rfl, rfl⟩ := hrel
        by_cases hlt : k < l.length
        · have hki : (k : Int) < (l.length : Int) := by omega
          have hix := at_here l k hlt
          have HST := Lib.hid (nm_step l hlt)
          obtain ⟨z, hz⟩ : ∃ z, z = nmAt l k := ⟨_, rfl⟩
          rw [← hz] at HST ⊢
          unfold inR at HST
          have hcb := l[k].toNat_lt
          generalize l[k].toNat = c at *
          cases z with
          | false =>
            have HN : Hid (nmAt l (k + 1) = false) := Lib.hid (by rw [HST.out]; rfl)
            clear HST hz hix
            go_wp2_with fail
            go_roundw
            case rel => exact ⟨k + 1, by omega, by go_num, by rw [HN.out], by first | rfl | trivial⟩
            case measure => simp [intOf]; omega
          | true =>
            by_cases hc1 : 97 ≤ c
            · have hc1' : (97 : Int) ≤ (c : Int) := by omega
              by_cases hc2 : c ≤ 122
              · have hc2' : (c : Int) ≤ 122 := by omega
                have HN : Hid (nmAt l (k + 1) = true) := Lib.hid (by rw [HST.out, decide_eq_true hc1, decide_eq_true hc2]; rfl)
                clear HST hz
                go_wp2_with fail
                go_roundw
                case rel => exact ⟨k + 1, by omega, by go_num, by rw [HN.out], by first | rfl | trivial⟩
                case measure => simp [intOf]; omega
              · have hc2' : ¬ (c : Int) ≤ 122 := by omega
                have HN : Hid (nmAt l (k + 1) = false) := Lib.hid (by rw [HST.out, decide_eq_false hc2]; simp)
                clear HST hz
                go_wp2_with fail
                go_roundw
                case rel => exact ⟨k + 1, by omega, by go_num, by rw [HN.out], by first | rfl | trivial⟩
                case measure => simp [intOf]; omega
            · have hc1' : ¬ (97 : Int) ≤ (c : Int) := by omega
              have HN : Hid (nmAt l (k + 1) = false) := Lib.hid (by rw [HST.out, decide_eq_false hc1]; simp)
              clear HST hz
              go_wp2_with fail
              go_roundw
              case rel => exact ⟨k + 1, by omega, by go_num, by rw [HN.out], by first | rfl | trivial⟩
              case measure => simp [intOf]; omega
        · obtain rfl : k = l.length := by omega
          rw [← HOK.out]
          have HEW := Lib.hid ((HE.out.below HB2.out).up HB2.out.size)
          clear HL1 HOK
          have hcs := HCS.out
          rcases hcs with ⟨rfl, rfl, p, rfl⟩ | ⟨rfl, rfl, rfl⟩
          all_goals
            go_wp2_with (first
              | (go_at_call 10; refine (slotOpen_nil _).mono ?_; rintro e w3 ⟨rfl, rfl⟩)
              | (go_at_call 11; refine (slotLoad_nil _).mono ?_; rintro e w3 ⟨rfl, rfl⟩)
              | (go_at_call 12; refine (slotAnswers _ HEW.out).mono ?_))
            first | rintro e w3 ⟨rfl, b3⟩ | rintro e w3 rfl b3
            have HB3 := Lib.hid (HB2.out.trans (b3.mono HB2.out.size))
            clear b3
            go_wp2_with (go_at_call 13; refine (slotSave_nil _ _ _ _).mono ?_; rintro e w4 ⟨rfl, rfl⟩)
            go_ret
            exact ⟨rfl, HB3.out⟩
    · have h8' : ¬ (l.length : Int) ≤ 8 := by omega
      have HL1 : Hid (nmAt l 0 = false) := Lib.hid (by rw [HL0.out, decide_eq_false h8]; simp)
      clear HL0 HM1
      go_wp2_with fail
      go_loopw [7, 8] (fun s7 s8 wr => ∃ k : Nat, k ≤ l.length ∧ s8 = .int .i64 (k : Int) ∧ s7 = .bool (nmAt l k) ∧ wr = w2) (fun _ s8 _ => l.length - (intOf s8).toNat)
      case atStart => exact ⟨0, Nat.zero_le _, rfl, by (try rw [HL1.out]) <;> first | rfl | simp [h8'], by first | rfl | trivial⟩
      case round =>
        obtain ⟨k, hk, rfl, rfl, rfl⟩ := hrel
        by_cases hlt : k < l.length
        · have hki : (k : Int) < (l.length : Int) := by omega
          have hix := at_here l k hlt
          have HST := Lib.hid (nm_step l hlt)
          obtain ⟨z, hz⟩ : ∃ z, z = nmAt l k := ⟨_, rfl⟩
          rw [← hz] at HST ⊢
          unfold inR at HST
          have hcb := l[k].toNat_lt
          generalize l[k].toNat = c at *
          cases z with
          | false =>
            have HN : Hid (nmAt l (k + 1) = false) := Lib.hid (by rw [HST.out]; rfl)
            clear HST hz hix
            go_wp2_with fail
            go_roundw
            case rel => exact ⟨k + 1, by omega, by go_num, by rw [HN.out], by first | rfl | trivial⟩
            case measure => simp [intOf]; omega
          | true =>
            by_cases hc1 : 97 ≤ c
            · have hc1' : (97 : Int) ≤ (c : Int) := by omega
              by_cases hc2 : c ≤ 122
              · have hc2' : (c : Int) ≤ 122 := by omega
                have HN : Hid (nmAt l (k + 1) = true) := Lib.hid (by rw [HST.out, decide_eq_true hc1, decide_eq_true hc2]; rfl)
                clear HST hz
                go_wp2_with fail
                go_roundw
                case rel => exact ⟨k + 1, by omega, by go_num, by rw [HN.out], by first | rfl | trivial⟩
                case measure => simp [intOf]; omega
              · have hc2' : ¬ (c : Int) ≤ 122 := by omega
                have HN : Hid (nmAt l (k + 1) = false) := Lib.hid (by rw [HST.out, decide_eq_false hc2]; simp)
                clear HST hz
                go_wp2_with fail
                go_roundw
                case rel => exact ⟨k + 1, by omega, by go_num, by rw [HN.out], by first | rfl | trivial⟩
                case measure => simp [intOf]; omega
            · have hc1' : ¬ (97 : Int) ≤ (c : Int) := by omega
              have HN : Hid (nmAt l (k + 1) = false) := Lib.hid (by rw [HST.out, decide_eq_false hc1]; simp)
              clear HST hz
              go_wp2_with fail
              go_roundw
              case rel => exact ⟨k + 1, by omega, by go_num, by rw [HN.out], by first | rfl | trivial⟩
              case measure => simp [intOf]; omega
        · obtain rfl : k = l.length := by omega
          rw [← HOK.out]
          have HEW := Lib.hid ((HE.out.below HB2.out).up HB2.out.size)
          clear HL1 HOK
          have hcs := HCS.out
          rcases hcs with ⟨rfl, rfl, p, rfl⟩ | ⟨rfl, rfl, rfl⟩
          all_goals
            go_wp2_with (first
              | (go_at_call 10; refine (slotOpen_nil _).mono ?_; rintro e w3 ⟨rfl, rfl⟩)
              | (go_at_call 11; refine (slotLoad_nil _).mono ?_; rintro e w3 ⟨rfl, rfl⟩)
              | (go_at_call 12; refine (slotAnswers _ HEW.out).mono ?_))
            first | rintro e w3 ⟨rfl, b3⟩ | rintro e w3 rfl b3
            have HB3 := Lib.hid (HB2.out.trans (b3.mono HB2.out.size))
            clear b3
            go_wp2_with (go_at_call 13; refine (slotSave_nil _ _ _ _).mono ?_; rintro e w4 ⟨rfl, rfl⟩)
            go_ret
            exact ⟨rfl, HB3.out⟩
  · have h1' : ¬ (1 : Int) ≤ (l.length : Int) := by omega
    have HL1 : Hid (nmAt l 0 = false) := Lib.hid (by rw [HL0.out, decide_eq_false h1]; rfl)
    clear HL0 HM1
    go_wp2_with fail
    go_loopw [7, 8] (fun s7 s8 wr => ∃ k : Nat, k ≤ l.length ∧ s8 = .int .i64 (k : Int) ∧ s7 = .bool (nmAt l k) ∧ wr = w2) (fun _ s8 _ => l.length - (intOf s8).toNat)
    case atStart => exact ⟨0, Nat.zero_le _, rfl, by (try rw [HL1.out]) <;> first | rfl | simp [h8'], by first | rfl | trivial⟩
    case round =>
      obtain ⟨k, hk, rfl, rfl, rfl⟩ := hrel
      by_cases hlt : k < l.length
      · have hki : (k : Int) < (l.length : Int) := by omega
        have hix := at_here l k hlt
        have HST := Lib.hid (nm_step l hlt)
        obtain ⟨z, hz⟩ : ∃ z, z = nmAt l k := ⟨_, rfl⟩
        rw [← hz] at HST ⊢
        unfold inR at HST
        have hcb := l[k].toNat_lt
        generalize l[k].toNat = c at *
        cases z with
        | false =>
          have HN : Hid (nmAt l (k + 1) = false) := Lib.hid (by rw [HST.out]; rfl)
          clear HST hz hix
          go_wp2_with fail
          go_roundw
          case rel => exact ⟨k + 1, by omega, by go_num, by rw [HN.out], by first | rfl | trivial⟩
          case measure => simp [intOf]; omega
        | true =>
          by_cases hc1 : 97 ≤ c
          · have hc1' : (97 : Int) ≤ (c : Int) := by omega
            by_cases hc2 : c ≤ 122
            · have hc2' : (c : Int) ≤ 122 := by omega
              have HN : Hid (nmAt l (k + 1) = true) := Lib.hid (by rw [HST.out, decide_eq_true hc1, decide_eq_true hc2]; rfl)
              clear HST hz
              go_wp2_with fail
              go_roundw
              case rel => exact ⟨k + 1, by omega, by go_num, by rw [HN.out], by first | rfl | trivial⟩
              case measure => simp [intOf]; omega
            · have hc2' : ¬ (c : Int) ≤ 122 := by omega
              have HN : Hid (nmAt l (k + 1) = false) := Lib.hid (by rw [HST.out, decide_eq_false hc2]; simp)
              clear HST hz
              go_wp2_with fail
              go_roundw
              case rel => exact ⟨k + 1, by omega, by go_num, by rw [HN.out], by first | rfl | trivial⟩
              case measure => simp [intOf]; omega
          · have hc1' : ¬ (97 : Int) ≤ (c : Int) := by omega
            have HN : Hid (nmAt l (k + 1) = false) := Lib.hid (by rw [HST.out, decide_eq_false hc1]; simp)
            clear HST hz
            go_wp2_with fail
            go_roundw
            case rel => exact ⟨k + 1, by omega, by go_num, by rw [HN.out], by first | rfl | trivial⟩
            case measure => simp [intOf]; omega
      · obtain rfl : k = l.length := by omega
        rw [← HOK.out]
        have HEW := Lib.hid ((HE.out.below HB2.out).up HB2.out.size)
        clear HL1 HOK
        have hcs := HCS.out
        rcases hcs with ⟨rfl, rfl, p, rfl⟩ | ⟨rfl, rfl, rfl⟩
        all_goals
          go_wp2_with (first
            | (go_at_call 10; refine (slotOpen_nil _).mono ?_; rintro e w3 ⟨rfl, rfl⟩)
            | (go_at_call 11; refine (slotLoad_nil _).mono ?_; rintro e w3 ⟨rfl, rfl⟩)
            | (go_at_call 12; refine (slotAnswers _ HEW.out).mono ?_))
          first | rintro e w3 ⟨rfl, b3⟩ | rintro e w3 rfl b3
          have HB3 := Lib.hid (HB2.out.trans (b3.mono HB2.out.size))
          clear b3
          go_wp2_with (go_at_call 13; refine (slotSave_nil _ _ _ _).mono ?_; rintro e w4 ⟨rfl, rfl⟩)
          go_ret
          exact ⟨rfl, HB3.out⟩
theorem walkSlotNames (l : List UInt8) (w : World) (hs : l.length ≤ 9223372036854775807) (hl : laidMetH Tryz.prog Rows.slotNamesRow.laid w) : Calls Tryz.prog 3 #[.string ⟨l.toArray⟩] w fun e w' => e = .returned (.bool true) ∧ Below w.heap.size w w' :=
  walkSlotNames' l hs w (senv_of hl (by kernel_rfl) (by simp [Rows.slotNamesRow]) (by simp [Rows.slotNamesRow]) (by simp [Rows.slotNamesRow]))
end Go.Proofs.YtpfamdcdbjaflaaGreatDoor
