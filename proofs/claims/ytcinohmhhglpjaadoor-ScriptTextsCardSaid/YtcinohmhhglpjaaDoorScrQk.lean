/- Contracts of the reference's readers: Key. -/
import Derived.Test.YtcinohmhhglpjaaDoorScrQ
import Derived.Test.YtcinohmhhglpjaaDoorVals
namespace Go.Proofs.YtcinohmhhglpjaaDoor
open Go.RowKit

/-- What the loop keeps, at place m of "x" and r behind it. -/
structure KInv (r : List UInt8) (m n : Nat) (t : List UInt8) : Prop where
  tl : 2 * t.length + 1 ≤ m
  odd : m % 2 = 1 → n = 0 ∧ unhex (r.take (m - 1)) = some t
  even : m % 2 = 0 → n < 16 ∧ ∃ c, r[m - 2]? = some c ∧ unfig c = some n ∧ unhex (r.take (m - 2)) = some t
theorem KInv.start (r : List UInt8) : KInv r 1 0 [] := ⟨by simp, fun _ => ⟨rfl, rfl⟩, fun h => by simp at h⟩
theorem KInv.lo {r : List UInt8} {m n d : Nat} {t : List UInt8} (h : KInv r m n t) (hm : 1 ≤ m) (ho : m % 2 = 1) (hk : m - 1 < r.length) (hc : unfig r[m - 1] = some d) : n = 0 ∧ KInv r (m + 1) d t := by
  obtain ⟨h1, h2⟩ := h.odd ho
  refine ⟨h1, by have := h.tl; omega, fun h => by omega, fun _ => ⟨(unfig_lt hc).1, r[m - 1], ?_, hc, ?_⟩⟩
  · rw [show m + 1 - 2 = m - 1 by omega]; exact List.getElem?_eq_getElem hk
  · rw [show m + 1 - 2 = m - 1 by omega]; exact h2
theorem KInv.hi {r : List UInt8} {m n d : Nat} {t : List UInt8} (h : KInv r m n t) (hm : 2 ≤ m) (ho : m % 2 = 0) (hk : m - 1 < r.length) (hc : unfig r[m - 1] = some d) : n < 16 ∧ KInv r (m + 1) 0 (t ++ [UInt8.ofNat (16 * n + d)]) := by
  obtain ⟨h0, c, h1, h2, h3⟩ := h.even ho
  refine ⟨h0, by have := h.tl; simp; omega, fun _ => ⟨rfl, ?_⟩, fun h => by omega⟩
  have hk2 : m - 2 < r.length := by omega
  have e : r.take (m + 1 - 1) = r.take (m - 2) ++ [c, r[m - 1]] := by
    rw [show m + 1 - 1 = (m - 2) + 1 + 1 by omega, List.take_succ_eq_append_getElem (by omega), List.take_succ_eq_append_getElem hk2, List.append_assoc]
    rw [List.getElem?_eq_getElem hk2] at h1
    injection h1 with h1
    rw [← h1]
    congr 2
    simp only [List.cons_append, List.nil_append, List.cons.injEq, and_true, true_and]
    congr 1
    omega
  rw [e]
  exact unhex_snoc _ _ _ _ _ _ h3 h2 hc
/-- What Key answers. -/
def KeyE (s : List UInt8) (w : World) (e : Ending) (w' : World) : Prop :=
  Below w.heap.size w w' ∧ ∃ k : List UInt8, e = .returned (.tuple #[.string ⟨k.toArray⟩, .bool (pkey s).isSome]) ∧ k.length ≤ 64 ∧ ∀ m, pkey s = some m → k = m
theorem keyE_no {s : List UInt8} {w w' : World} (h : pkey s = none) (hb : Below w.heap.size w w') : KeyE s w (.returned (.tuple #[.string ⟨#[]⟩, .bool false])) w' :=
  ⟨hb, [], by rw [h]; rfl, by simp, fun m hm => by rw [h] at hm; cases hm⟩
theorem keyE_yes {s k : List UInt8} {w w' : World} (h : pkey s = some k) (hb : Below w.heap.size w w') : KeyE s w (.returned (.tuple #[.string ⟨k.toArray⟩, .bool true])) w' :=
  ⟨hb, k, by rw [h]; rfl, (pkey_some h).2, fun m hm => by rw [h] at hm; injection hm⟩
theorem unfig_dig {c : UInt8} (h : 48 ≤ c.toNat ∧ c.toNat ≤ 57) : unfig c = some (c.toNat - 48) := by unfold unfig; rw [if_pos h]
theorem unfig_let {c : UInt8} (h : 97 ≤ c.toNat ∧ c.toNat ≤ 102) : unfig c = some (c.toNat - 87) := by unfold unfig; rw [if_neg (by omega), if_pos h]
theorem unfig_not {c : UInt8} (h1 : ¬ (48 ≤ c.toNat ∧ c.toNat ≤ 57)) (h2 : ¬ (97 ≤ c.toNat ∧ c.toNat ≤ 102)) : unfig c = none := by unfold unfig; rw [if_neg h1, if_neg h2]

theorem conv1 (w : World) (z : Int) (y : UInt8) (h : (y.toNat : Int) = z) : (convert 60 9 (.slice (some ⟨w.heap.size, 0, none⟩) 1 1)).run Tryd.prog (w.alloc (.cells #[.int .u8 z] 5)) = .ok (.string ⟨[y].toArray⟩) (w.alloc (.cells #[.int .u8 z] 5)) := by
  subst h
  exact convB (l := [y]) 1 (RB.of_rv (by simpa [bcells] using RV.lit w [.int .u8 (y.toNat : Int)] 5 (0, 0)))
set_option maxRecDepth 20000 in
set_option maxHeartbeats 2000000 in
theorem refKeyYes (r : List UInt8) (he : r.length % 2 = 0) (hl : r.length ≤ 128) (w : World) : Calls Tryd.prog 48 #[.string ⟨(120 :: r).toArray⟩] w (KeyE (120 :: r) w) := by
  have hix0 : ∀ W, (Instr.index 9 (.string ⟨(120 :: r).toArray⟩) (.int .i64 0)).run Tryd.prog W = .ok (.int .u8 120) W := fun W => at_here (120 :: r) 0 (by simp) W
  have hmod : ((r.length : Int) + 1) % 2 = 1 := by omega
  have hz : ((r.length : Int) + 1 == 0) = false := beq_eq_false_iff_ne.2 (by omega)
  have hbig : decide ((129 : Int) < (r.length : Int) + 1) = false := decide_eq_false (by omega)
  go_enter Tryd.func48, Tryd.ntmps48
  go_wp2_with fail
  clear hmod
  go_loopw [4, 5, 6] (fun o q i wr => ∃ (m n : Nat) (t : List UInt8), 1 ≤ m ∧ m ≤ r.length + 1 ∧ i = .int .i64 (m : Int) ∧ q = .int .i64 (n : Int) ∧ o = .string ⟨t.toArray⟩ ∧ Hid (KInv r m n t) ∧ Hid (Below w.heap.size w wr)) (fun _ _ i _ => r.length + 1 - (intOf i).toNat)
  case atStart => exact ⟨1, 0, [], Nat.le_refl _, by omega, rfl, rfl, rfl, Lib.hid (KInv.start r), Lib.hid (Below.refl _ _)⟩
  case round =>
    clear hix0
    obtain ⟨m, n, t, hm1, hm2, rfl, rfl, rfl, HI, HB⟩ := hrel
    by_cases hlt : m < r.length + 1
    · have hk : m - 1 < r.length := by omega
      have hcc : (120 :: r)[m]'(by simpa using hlt) = r[m - 1] := by
        cases m with
        | zero => omega
        | succ j => rfl
      have hix := at_here (120 :: r) m (by simpa using hlt)
      rw [hcc] at hix
      have HBAD : Hid (unfig r[m - 1] = none → pkey (120 :: r) = none) := Lib.hid (pkey_bad hk)
      have HD : Hid (48 ≤ r[m - 1].toNat ∧ r[m - 1].toNat ≤ 57 → unfig r[m - 1] = some (r[m - 1].toNat - 48)) := Lib.hid unfig_dig
      have HL : Hid (97 ≤ r[m - 1].toNat ∧ r[m - 1].toNat ≤ 102 → unfig r[m - 1] = some (r[m - 1].toNat - 87)) := Lib.hid unfig_let
      have HX : Hid (¬ (48 ≤ r[m - 1].toNat ∧ r[m - 1].toNat ≤ 57) → ¬ (97 ≤ r[m - 1].toNat ∧ r[m - 1].toNat ≤ 102) → unfig r[m - 1] = none) := Lib.hid unfig_not
      have HLO : Hid (∀ d, m % 2 = 1 → unfig r[m - 1] = some d → n = 0 ∧ KInv r (m + 1) d t) := Lib.hid fun d ho hc => HI.out.lo hm1 ho hk hc
      have HHI : Hid (∀ d, m % 2 = 0 → unfig r[m - 1] = some d → n < 16 ∧ KInv r (m + 1) 0 (t ++ [UInt8.ofNat (16 * n + d)])) := Lib.hid fun d ho hc => HI.out.hi (by omega) ho hk hc
      generalize r[m - 1] = c at *
      have hx256 := c.toNat_lt
      generalize hxe : c.toNat = x at *
      have HXE := Lib.hid hxe
      clear hxe hcc
      by_cases hdg : 48 ≤ x ∧ x ≤ 57
      · have HU := Lib.hid (HD.out hdg)
        obtain ⟨hd1, hd2⟩ := hdg
        by_cases ho : m % 2 = 1
        · obtain ⟨rfl, h2⟩ := HLO.out _ ho HU.out
          have HN := Lib.hid h2
          have hmo : (m : Int) % 2 = 1 := by omega
          have hcast : ((x - 48 : Nat) : Int) = (x : Int) - 48 := by omega
          have HC := Lib.hid hcast
          clear HBAD HD HL HX HLO HHI HU h2 ho hcast
          go_wp2_with fail
          go_roundw
          case rel => exact ⟨m + 1, x - 48, t, by omega, by omega, by go_num, by rw [HC.out], rfl, HN, HB⟩
          case measure => simp [intOf]; omega
        · obtain ⟨hn16, h2⟩ := HHI.out _ (by omega) HU.out
          have hmo : (m : Int) % 2 = 0 := by omega
          have hcast : ((16 * n + (x - 48) : Nat) : Int) = (n : Int) * 16 + ((x : Int) - 48) := by omega
          obtain ⟨y, hy⟩ : ∃ y, UInt8.ofNat (16 * n + (x - 48)) = y := ⟨_, rfl⟩
          have hyn : (y.toNat : Int) = ((n : Int) * 16 + ((x : Int) - 48)) := by
            have : 16 * n + (x - 48) < 256 := by omega
            rw [← hcast, ← hy, UInt8.toNat_ofNat', Nat.mod_eq_of_lt this]
          have hcv := conv1 wr ((n : Int) * 16 + ((x : Int) - 48)) y hyn
          rw [hy] at h2
          have HN := Lib.hid h2
          have htl := HI.out.tl
          clear HBAD HD HL HX HLO HHI HU h2 ho hcast hy hyn
          go_wp2_with fail
          go_roundw
          case rel => exact ⟨m + 1, 0, t ++ [y], by omega, by omega, by go_num, rfl, by rw [ByteArray.mk_append_mk], HN, Lib.hid (HB.out.alloc HB.out.size _)⟩
          case measure => simp [intOf]; omega
      · by_cases hlg : 97 ≤ x ∧ x ≤ 102
        · have HU := Lib.hid (HL.out hlg)
          obtain ⟨hd1, hd2⟩ := hlg
          have hdec : decide ((x : Int) ≤ 57) = false := decide_eq_false (by omega)
          by_cases ho : m % 2 = 1
          · obtain ⟨rfl, h2⟩ := HLO.out _ ho HU.out
            have HN := Lib.hid h2
            have hmo : (m : Int) % 2 = 1 := by omega
            have hcast : ((x - 87 : Nat) : Int) = (x : Int) - 97 + 10 := by omega
            have HC := Lib.hid hcast
            clear HBAD HD HL HX HLO HHI HU h2 ho hcast
            go_wp2_with fail
            go_roundw
            case rel => exact ⟨m + 1, x - 87, t, by omega, by omega, by go_num, by rw [HC.out], rfl, HN, HB⟩
            case measure => simp [intOf]; omega
          · obtain ⟨hn16, h2⟩ := HHI.out _ (by omega) HU.out
            have hmo : (m : Int) % 2 = 0 := by omega
            have hcast : ((16 * n + (x - 87) : Nat) : Int) = (n : Int) * 16 + ((x : Int) - 97 + 10) := by omega
            obtain ⟨y, hy⟩ : ∃ y, UInt8.ofNat (16 * n + (x - 87)) = y := ⟨_, rfl⟩
            have hyn : (y.toNat : Int) = ((n : Int) * 16 + ((x : Int) - 97 + 10)) := by
              have : 16 * n + (x - 87) < 256 := by omega
              rw [← hcast, ← hy, UInt8.toNat_ofNat', Nat.mod_eq_of_lt this]
            have hcv := conv1 wr ((n : Int) * 16 + ((x : Int) - 97 + 10)) y hyn
            rw [hy] at h2
            have HN := Lib.hid h2
            have htl := HI.out.tl
            clear HBAD HD HL HX HLO HHI HU h2 ho hcast hy hyn
            go_wp2_with fail
            go_roundw
            case rel => exact ⟨m + 1, 0, t ++ [y], by omega, by omega, by go_num, rfl, by rw [ByteArray.mk_append_mk], HN, Lib.hid (HB.out.alloc HB.out.size _)⟩
            case measure => simp [intOf]; omega
        · have HU := Lib.hid (HBAD.out (HX.out hdg hlg))
          have hz1 : x < 48 ∨ (57 < x ∧ x < 97) ∨ 102 < x := by omega
          clear HBAD HD HL HX HLO HHI HI hdg hlg
          rcases hz1 with h | ⟨h, h'⟩ | h
          all_goals
            go_wp2_with fail
            go_ret2
            exact keyE_no HU.out (HB.out)
    · obtain rfl : m = r.length + 1 := by omega
      obtain ⟨_, h2⟩ := HI.out.odd (by omega)
      rw [show r.length + 1 - 1 = r.length by omega, List.take_length] at h2
      have HP := Lib.hid (pkey_ok h2 hl)
      clear HI h2
      go_wp2_with fail
      go_ret2
      exact keyE_yes HP.out HB.out

set_option maxRecDepth 20000 in
set_option maxHeartbeats 1000000 in
theorem refKeyNil (w : World) : Calls Tryd.prog 48 #[.string ⟨#[]⟩] w (KeyE [] w) := by
  go_enter Tryd.func48, Tryd.ntmps48
  go_wp2_with fail
  go_ret2
  exact keyE_no (pkey_head (by simp)) (Below.refl _ _)
set_option maxRecDepth 20000 in
set_option maxHeartbeats 1000000 in
theorem refKeyHead (c : UInt8) (r : List UInt8) (hs : r.length ≤ 140737488351232) (hc : c ≠ 120) (w : World) : Calls Tryd.prog 48 #[.string ⟨(c :: r).toArray⟩] w (KeyE (c :: r) w) := by
  have hix0 : ∀ W, (Instr.index 9 (.string ⟨(c :: r).toArray⟩) (.int .i64 0)).run Tryd.prog W = .ok (.int .u8 (c.toNat : Int)) W := fun W => at_here (c :: r) 0 (by simp) W
  have hz : ((r.length : Int) + 1 == 0) = false := beq_eq_false_iff_ne.2 (by omega)
  have hcx : ((c.toNat : Int) != 120) = true := by
    rw [bne_iff_ne]
    intro e
    exact hc (show c = UInt8.ofNat 120 from u8_eq (n := 120) (by decide) (by omega))
  have HP : Hid (pkey (c :: r) = none) := Lib.hid (pkey_head (fun q h => by injection h with h _; exact absurd h hc))
  generalize c.toNat = x at *
  clear hc
  go_enter Tryd.func48, Tryd.ntmps48
  go_wp2_with fail
  go_ret2
  exact keyE_no HP.out (Below.refl _ _)
set_option maxRecDepth 20000 in
set_option maxHeartbeats 1000000 in
theorem refKeyOdd (r : List UInt8) (hs : r.length ≤ 140737488351232) (hr : r.length % 2 = 1) (w : World) : Calls Tryd.prog 48 #[.string ⟨(120 :: r).toArray⟩] w (KeyE (120 :: r) w) := by
  have hix0 : ∀ W, (Instr.index 9 (.string ⟨(120 :: r).toArray⟩) (.int .i64 0)).run Tryd.prog W = .ok (.int .u8 120) W := fun W => at_here (120 :: r) 0 (by simp) W
  have hz : ((r.length : Int) + 1 == 0) = false := beq_eq_false_iff_ne.2 (by omega)
  have hmod : ((r.length : Int) + 1) % 2 = 0 := by omega
  have HP : Hid (pkey (120 :: r) = none) := Lib.hid (pkey_head (fun q h => by injection h with _ h; subst h; exact .inl hr))
  go_enter Tryd.func48, Tryd.ntmps48
  go_wp2_with fail
  go_ret2
  exact keyE_no HP.out (Below.refl _ _)
set_option maxRecDepth 20000 in
set_option maxHeartbeats 1000000 in
theorem refKeyLong (r : List UInt8) (hs : r.length ≤ 140737488351232) (hr : r.length % 2 = 0) (hl : 128 < r.length) (w : World) : Calls Tryd.prog 48 #[.string ⟨(120 :: r).toArray⟩] w (KeyE (120 :: r) w) := by
  have hix0 : ∀ W, (Instr.index 9 (.string ⟨(120 :: r).toArray⟩) (.int .i64 0)).run Tryd.prog W = .ok (.int .u8 120) W := fun W => at_here (120 :: r) 0 (by simp) W
  have hz : ((r.length : Int) + 1 == 0) = false := beq_eq_false_iff_ne.2 (by omega)
  have hmod : ((r.length : Int) + 1) % 2 = 1 := by omega
  have hbig : decide ((129 : Int) < (r.length : Int) + 1) = true := decide_eq_true (by omega)
  have HP : Hid (pkey (120 :: r) = none) := Lib.hid (pkey_head (fun q h => by injection h with _ h; subst h; exact .inr hl))
  go_enter Tryd.func48, Tryd.ntmps48
  go_wp2_with fail
  go_ret2
  exact keyE_no HP.out (Below.refl _ _)
theorem refKey (s : List UInt8) (hs : s.length ≤ 140737488351232) (w : World) : Calls Tryd.prog 48 #[.string ⟨s.toArray⟩] w (KeyE s w) := by
  cases s with
  | nil => exact refKeyNil w
  | cons c r =>
    rw [List.length_cons] at hs
    by_cases hc : c = 120
    · subst hc
      by_cases hr : r.length % 2 = 1
      · exact refKeyOdd r (by omega) hr w
      · by_cases hl : r.length ≤ 128
        · exact refKeyYes r (by omega) hl w
        · exact refKeyLong r (by omega) (by omega) (by omega) w
    · exact refKeyHead c r (by omega) hc w
end Go.Proofs.YtcinohmhhglpjaaDoor
