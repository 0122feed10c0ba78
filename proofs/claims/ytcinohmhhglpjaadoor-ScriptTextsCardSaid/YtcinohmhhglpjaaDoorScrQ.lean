/- Contracts of the reference's readers: Num, Int, Words. -/
import Derived.Test.YtcinohmhhglpjaaDoorScrRw
import Derived.Test.YtcinohmhhglpjaaDoorScrRr
import Derived.Test.YtcinohmhhglpjaaDoorScrH
import Derived.Test.YtcinohmhhglpjaaDoorVals
namespace Go.Proofs.YtcinohmhhglpjaaDoor
open Go.RowKit

/-- What Num answers. -/
def NumE (s : List UInt8) (w : World) (e : Ending) (w' : World) : Prop :=
  Below w.heap.size w w' ∧ ∃ n : Int, InU n ∧ e = .returned (.tuple #[.int .u64 n, .bool (pnum s).isSome]) ∧ ∀ m, pnum s = some m → n = m
theorem numE_no {s : List UInt8} {w w' : World} {n : Int} (h : pnum s = none) (hn : InU n) (hb : Below w.heap.size w w') : NumE s w (.returned (.tuple #[.int .u64 n, .bool false])) w' := by
  refine ⟨hb, n, hn, by rw [h]; rfl, fun m hm => ?_⟩
  rw [h] at hm; cases hm
theorem numE_no' {s : List UInt8} {w w' : World} {n : Int} {B : Bool} (hB : B = false) (h : pnum s = none) (hn : InU n) (hb : Below w.heap.size w w') : NumE s w (.returned (.tuple #[.int .u64 n, .bool B])) w' := by
  subst hB; exact numE_no h hn hb
theorem numE_yes {s : List UInt8} {w w' : World} {n : Int} (h : pnum s = some n) (hb : Below w.heap.size w w') : NumE s w (.returned (.tuple #[.int .u64 n, .bool true])) w' := by
  refine ⟨hb, n, (pnum_some h).2, by rw [h]; rfl, fun m hm => ?_⟩
  rw [h] at hm; injection hm

theorem numE_lead {c : UInt8} {r : List UInt8} {n : Nat} {w w' : World} (hd : ∀ x ∈ c :: r, Digit x) (hv : val (c :: r) = n) (hn : n ≤ 18446744073709551615) (hb : Below w.heap.size w w') :
    NumE (c :: r) w (.returned (.tuple #[.int .u64 (n : Int), .bool (c == 48 && r.isEmpty || ((c.toNat : Int) != 48))])) w' := by
  by_cases hc : c = 48
  · subst hc
    cases r with
    | nil => exact numE_yes (by rw [pnum_val hd (by rw [hv]; exact hn) (.inl rfl), hv]) hb
    | cons d r =>
      refine numE_no (pnum_lead ?_) (by unfold InU; omega) hb
      rintro (h | ⟨c, q, h, h2⟩)
      · cases h
      · injection h with h; exact h2 h.symm
  · have h1 : (c == 48) = false := beq_eq_false_iff_ne.2 hc
    have hcx : ((c.toNat : Int) != 48) = true := by
      rw [bne_iff_ne]
      intro e
      have e' : (c.toNat : Int) = 48 := e
      exact hc (show c = UInt8.ofNat 48 from u8_eq (n := 48) (by decide) (by omega))
    rw [h1, hcx]
    exact numE_yes (by rw [pnum_val hd (by rw [hv]; exact hn) (.inr ⟨c, r, rfl, hc⟩), hv]) hb

set_option maxRecDepth 20000 in
set_option maxHeartbeats 1000000 in
theorem refNum (s : List UInt8) (hs : s.length ≤ 140737488351232) (w : World) : Calls Tryd.prog 47 #[.string ⟨s.toArray⟩] w (NumE s w) := by
  have hsz : (⟨s.toArray⟩ : ByteArray).size = s.length := by simp [ByteArray.size]
  go_enter Tryd.func47, Tryd.ntmps47
  go_wp2_with fail
  go_loop [4, 5] (fun o i => ∃ (k n : Nat), k ≤ s.length ∧ i = .int .i64 (k : Int) ∧ o = .int .u64 (n : Int) ∧ n ≤ 18446744073709551615 ∧ Hid (val (s.take k) = n) ∧ Hid (∀ c ∈ s.take k, Digit c)) (fun _ i => s.length - (intOf i).toNat)
  case atStart => exact ⟨0, 0, Nat.zero_le _, rfl, rfl, by omega, Lib.hid rfl, Lib.hid (by simp)⟩
  case round =>
    obtain ⟨k, n, hk, rfl, rfl, hn, hv, HD⟩ := hrel
    by_cases hlt : k < s.length
    · have hix := at_here s k hlt
      have hb := s[k].toNat_lt
      have HBAD := Lib.hid (fun (h : ¬ Digit s[k]) => pnum_bad hlt h)
      have HOV := Lib.hid (fun (h : 18446744073709551615 < n * 10 + (s[k].toNat - 48)) => pnum_over hlt (by rw [hv.out]; exact h))
      have HVT := Lib.hid (val_take hlt)
      have HDN : Hid (Digit s[k] → ∀ c ∈ s.take (k + 1), Digit c) := Lib.hid fun h c hc => by
        rw [List.take_succ_eq_append_getElem hlt, List.mem_append, List.mem_singleton] at hc
        rcases hc with hc | rfl
        · exact HD.out c hc
        · exact h
      unfold Digit at HBAD HDN
      generalize s[k].toNat = x at *
      by_cases h1 : x < 48
      · have HN := Lib.hid (HBAD.out (by omega))
        clear HBAD HOV HVT HDN
        go_wp2_with fail
        go_ret2
        exact numE_no HN.out (by unfold InU; omega) (Below.refl _ _)
      · by_cases h2 : 57 < x
        · have HN := Lib.hid (HBAD.out (by omega))
          clear HBAD HOV HVT HDN
          go_wp2_with fail
          go_ret2
          exact numE_no HN.out (by unfold InU; omega) (Below.refl _ _)
        · have hd1 : 48 ≤ x ∧ x ≤ 57 := by omega
          have HDK := Lib.hid (HDN.out hd1)
          obtain ⟨hd2, hd3⟩ := hd1
          by_cases hov : 18446744073709551615 < n * 10 + (x - 48)
          · have HN := Lib.hid (HOV.out hov)
            have hgt : (18446744073709551615 - ((x : Int) - 48)) / 10 < (n : Int) := by omega
            clear HBAD HOV HVT HDN hov
            go_wp2_with fail
            go_ret2
            exact numE_no HN.out (by unfold InU; omega) (Below.refl _ _)
          · have hgt : ¬ (18446744073709551615 - ((x : Int) - 48)) / 10 < (n : Int) := by omega
            have hb0 : (n : Int) * 10 ≤ 18446744073709551615 := by omega
            have hb1 : (n : Int) * 10 + ((x : Int) - 48) ≤ 18446744073709551615 := by omega
            have HV2 : Hid (val (s.take (k + 1)) = n * 10 + (x - 48)) := Lib.hid (by rw [HVT.out, hv.out])
            have hnn : n * 10 + (x - 48) ≤ 18446744073709551615 := by omega
            have hcast : ((n * 10 + (x - 48) : Nat) : Int) = (n : Int) * 10 + ((x : Int) - 48) := by omega
            have HC := Lib.hid hcast
            clear HBAD HOV HVT HDN hov hcast
            go_wp2_with fail
            go_round
            case rel => exact ⟨k + 1, n * 10 + (x - 48), by omega, by go_num, by rw [HC.out], hnn, HV2, HDK⟩
            case measure => simp [intOf]; omega
    · obtain rfl : k = s.length := by omega
      rw [List.take_length] at hv HD
      cases s with
      | nil =>
        go_wp2_with fail
        go_quiet (fail)
        go_wp2_with fail
        go_ret2
        exact numE_no rfl (by unfold InU; omega) (belowN (Below.refl _ _) _)
      | cons c r =>
        by_cases hc : c = 48
        · cases hr : r.isEmpty with
          | true =>
            obtain rfl : r = [] := by simpa using hr
            subst hc
            have HP : Hid (pnum [48] = some (n : Int)) := Lib.hid (by rw [pnum_val HD.out (by rw [hv.out]; exact hn) (.inl rfl), hv.out])
            clear hr
            go_wp2_with fail
            go_quiet (fail)
            go_wp2_with fail
            go_ret2
            exact numE_yes HP.out (belowN (Below.refl _ _) _)
          | false =>
            have HN : Hid (pnum (c :: r) = none) := Lib.hid (by
              subst hc
              refine pnum_lead ?_
              rintro (h | ⟨c, q, h, h2⟩)
              · injection h with _ h; subst h; cases hr
              · injection h with h; exact h2 h.symm)
            have hcx : ((c.toNat : Int) != 48) = false := by subst hc; rfl
            clear hc
            go_wp2_with fail
            go_quiet (fail)
            go_wp2_with fail
            go_ret2
            exact numE_no' (n := (n : Int)) (show ((c.toNat : Int) != 48) = false from hcx) HN.out (by unfold InU; omega) (belowN (Below.refl _ _) _)
        · have hcx : ((c.toNat : Int) != 48) = true := by
            rw [bne_iff_ne]
            intro e
            have e' : (c.toNat : Int) = 48 := e
            exact hc (show c = UInt8.ofNat 48 from u8_eq (n := 48) (by decide) (by omega))
          go_wp2_with fail
          go_quiet (fail)
          go_wp2_with fail
          go_ret2
          exact numE_lead HD.out hv.out hn (belowN (Below.refl _ _) _)
/-- What Int answers. -/
def IntE (s : List UInt8) (w : World) (e : Ending) (w' : World) : Prop :=
  Below w.heap.size w w' ∧ ∃ n : Int, InI n ∧ e = .returned (.tuple #[.int .i64 n, .bool (pint s).isSome]) ∧ ∀ m, pint s = some m → n = m
theorem wrap_in (n : Int) : InI (IntKind.i64.wrap n) := by
  unfold InI IntKind.wrap
  simp [IntKind.bits, IntKind.signed]
  omega
theorem wrap64_in (n : Int) : InI (wrap64 n) := by
  unfold InI wrap64
  omega
theorem intE_no {s : List UInt8} {w w' : World} {n : Int} (h : pint s = none) (hn : InI n) (hb : Below w.heap.size w w') : IntE s w (.returned (.tuple #[.int .i64 n, .bool false])) w' := by
  refine ⟨hb, n, hn, by rw [h]; rfl, fun m hm => ?_⟩
  rw [h] at hm; cases hm
theorem intE_yes {s : List UInt8} {w w' : World} {n : Int} (h : pint s = some n) (hb : Below w.heap.size w w') : IntE s w (.returned (.tuple #[.int .i64 n, .bool true])) w' := by
  refine ⟨hb, n, (pint_some h).2, by rw [h]; rfl, fun m hm => ?_⟩
  rw [h] at hm; injection hm
theorem sub_one (c : UInt8) (r : List UInt8) : (⟨(c :: r).toArray⟩ : ByteArray).extract 1 (r.length + 1) = ⟨r.toArray⟩ := by
  have e := Lib.extract_to_end ⟨(c :: r).toArray⟩ 1
  have hsz : (⟨(c :: r).toArray⟩ : ByteArray).size = r.length + 1 := by simp [ByteArray.size]
  rw [hsz] at e
  apply ByteArray.ext
  apply Array.toList_inj.1
  rw [e]
  rfl

set_option maxRecDepth 20000 in
set_option maxHeartbeats 1000000 in
theorem refInt (s : List UInt8) (hs : s.length ≤ 140737488351232) (w : World) : Calls Tryd.prog 46 #[.string ⟨s.toArray⟩] w (IntE s w) := by
  have hsz : (⟨s.toArray⟩ : ByteArray).size = s.length := by simp [ByteArray.size]
  by_cases hm : ∃ r, s = 45 :: r ∧ r ≠ []
  · obtain ⟨r, rfl, hr⟩ := hm
    have hl : 0 < r.length := List.length_pos_iff.2 hr
    simp only [List.length_cons] at hs
    have HP := Lib.hid (pint_minus hr)
    have C := Lib.hid (refNum r (by omega))
    have hcut := sub_one 45 r
    go_enter Tryd.func46, Tryd.ntmps46
    go_wp2_with (go_at_call 47; refine (C.out _).mono ?_)
    rintro e w1 ⟨hb1, n, hn, rfl, hpn⟩
    have hn1 := hn.1
    have hn2 := hn.2
    have HB1 := Lib.hid hb1
    clear hb1 hn C hcut
    cases hp : pnum r with
    | none =>
      have HN : Hid (pint (45 :: r) = none) := Lib.hid (by rw [HP.out, hp])
      simp only [Option.isSome_none]
      clear hpn hp HP
      go_wp2_with fail
      go_ret2
      exact intE_no HN.out (wrap64_in _) HB1.out
    | some m =>
      obtain rfl := hpn m hp
      simp only [Option.isSome_some]
      by_cases hr1 : 0 < n ∧ n ≤ 9223372036854775808
      · have HY : Hid (pint (45 :: r) = some (-n)) := Lib.hid (by rw [HP.out, hp]; simp only; rw [if_pos hr1])
        obtain ⟨hr2, hr3⟩ := hr1
        have hw1 : IntKind.u64.wrap (-n) = 18446744073709551616 - n := by
          unfold IntKind.wrap
          simp [IntKind.bits, IntKind.signed]
          omega
        have hw2 : IntKind.i64.wrap (18446744073709551616 - n) = -n := by
          unfold IntKind.wrap
          simp [IntKind.bits, IntKind.signed]
          omega
        clear hpn hp HP
        go_wp2_with fail
        go_ret2
        exact intE_yes HY.out HB1.out
      · have HN : Hid (pint (45 :: r) = none) := Lib.hid (by rw [HP.out, hp]; simp only; rw [if_neg hr1])
        by_cases hr2 : 0 < n
        · have hr3 : ¬ n ≤ 9223372036854775808 := fun h => hr1 ⟨hr2, h⟩
          clear hpn hp HP hr1
          go_wp2_with fail
          go_ret2
          exact intE_no HN.out (wrap64_in _) HB1.out
        · clear hpn hp HP hr1
          go_wp2_with fail
          go_ret2
          exact intE_no HN.out (by unfold InI; omega) HB1.out
  · have HP := Lib.hid (pint_plain (s := s) (fun r h => by
      cases r with
      | nil => rfl
      | cons c r => exact absurd ⟨c :: r, h, by simp⟩ hm))
    have C := Lib.hid (refNum s hs)
    have key : ∀ (t : Unit), Calls Tryd.prog 46 #[.string ⟨s.toArray⟩] w (IntE s w) := by
      intro _
      cases s with
      | nil =>
        clear hm
        go_enter Tryd.func46, Tryd.ntmps46
        go_wp2_with (go_at_call 47; refine (C.out _).mono ?_)
        rintro e w1 ⟨hb1, n, hn, rfl, hpn⟩
        have hn1 := hn.1
        have hn2 := hn.2
        have HB1 := Lib.hid hb1
        clear hb1 hn C hpn
        rw [show pnum [] = none from rfl]
        simp only [Option.isSome_none]
        go_wp2_with fail
        go_ret2
        exact intE_no rfl (wrap64_in _) HB1.out
      | cons c r =>
        by_cases hr : r = []
        · subst hr
          clear hm
          go_enter Tryd.func46, Tryd.ntmps46
          go_wp2_with (go_at_call 47; refine (C.out _).mono ?_)
          rintro e w1 ⟨hb1, n, hn, rfl, hpn⟩
          have hn1 := hn.1
          have hn2 := hn.2
          have HB1 := Lib.hid hb1
          clear hb1 hn C
          cases hp : pnum [c] with
          | none =>
            have HN : Hid (pint [c] = none) := Lib.hid (by rw [HP.out, hp])
            simp only [Option.isSome_none]
            clear hpn hp HP
            go_wp2_with fail
            go_ret2
            exact intE_no HN.out (wrap64_in _) HB1.out
          | some m =>
            obtain rfl := hpn m hp
            simp only [Option.isSome_some]
            by_cases hr1 : n ≤ 9223372036854775807
            · have HY : Hid (pint [c] = some n) := Lib.hid (by rw [HP.out, hp]; simp only; rw [if_pos hr1])
              clear hpn hp HP
              go_wp2_with fail
              go_ret2
              exact intE_yes HY.out HB1.out
            · have HN : Hid (pint [c] = none) := Lib.hid (by rw [HP.out, hp]; simp only; rw [if_neg hr1])
              clear hpn hp HP
              go_wp2_with fail
              go_ret2
              exact intE_no HN.out (wrap64_in _) HB1.out
        · have hc : ¬ c = 45 := fun e => hm ⟨r, by rw [e], hr⟩
          have hl : 0 < r.length := List.length_pos_iff.2 hr
          have hix : ∀ W, (Instr.index 9 (.string ⟨(c :: r).toArray⟩) (.int .i64 0)).run Tryd.prog W = .ok (.int .u8 (c.toNat : Int)) W := fun W => at_here (c :: r) 0 (by simp) W
          have hcx : ((c.toNat : Int) == 45) = false := by
            rw [beq_eq_false_iff_ne]
            intro e
            have e' : (c.toNat : Int) = 45 := e
            exact hc (show c = UInt8.ofNat 45 from u8_eq (n := 45) (by decide) (by omega))
          clear hm hr hc
          go_enter Tryd.func46, Tryd.ntmps46
          go_wp2_with (go_at_call 47; refine (C.out _).mono ?_)
          rintro e w1 ⟨hb1, n, hn, rfl, hpn⟩
          have hn1 := hn.1
          have hn2 := hn.2
          have HB1 := Lib.hid hb1
          clear hb1 hn C
          cases hp : pnum (c :: r) with
          | none =>
            have HN : Hid (pint (c :: r) = none) := Lib.hid (by rw [HP.out, hp])
            simp only [Option.isSome_none]
            clear hpn hp HP
            go_wp2_with fail
            go_ret2
            exact intE_no HN.out (wrap64_in _) HB1.out
          | some m =>
            obtain rfl := hpn m hp
            simp only [Option.isSome_some]
            by_cases hr1 : n ≤ 9223372036854775807
            · have HY : Hid (pint (c :: r) = some n) := Lib.hid (by rw [HP.out, hp]; simp only; rw [if_pos hr1])
              clear hpn hp HP
              go_wp2_with fail
              go_ret2
              exact intE_yes HY.out HB1.out
            · have HN : Hid (pint (c :: r) = none) := Lib.hid (by rw [HP.out, hp]; simp only; rw [if_neg hr1])
              clear hpn hp HP
              go_wp2_with fail
              go_ret2
              exact intE_no HN.out (wrap64_in _) HB1.out
    exact key ()


theorem cut_eq (s : List UInt8) (f k : Nat) : (⟨s.toArray⟩ : ByteArray).extract f k = ⟨((s.drop f).take (k - f)).toArray⟩ := by
  apply ByteArray.ext
  apply Array.toList_inj.1
  rw [Lib.extract_data]
/-- What the loop keeps: the words so far, and where the next one begins. -/
structure WInv (s : List UInt8) (k f : Nat) (P : List (List UInt8)) : Prop where
  le : P.length ≤ s.length + 1
  mid : k ≤ s.length → f ≤ k ∧ (32 : UInt8) ∉ (s.drop f).take (k - f) ∧ P ++ parts 32 (s.drop f) = parts 32 s
  fin : ¬ k ≤ s.length → P = parts 32 s
theorem parts_le (s : List UInt8) : (parts 32 s).length ≤ s.length + 1 := by rw [parts_count]; have := List.count_le_length (a := (32 : UInt8)) (l := s); omega
theorem WInv.start (s : List UInt8) : WInv s 0 0 [] := ⟨by simp, fun _ => ⟨Nat.le_refl _, by simp, rfl⟩, fun h => absurd (Nat.zero_le _) h⟩
theorem WInv.skip {s : List UInt8} {k f : Nat} {P : List (List UInt8)} (h : WInv s k f P) (hk : k < s.length) (hc : s[k] ≠ 32) : WInv s (k + 1) f P := by
  obtain ⟨h1, h2, h3⟩ := h.mid (by omega)
  refine ⟨h.le, fun _ => ⟨by omega, ?_, h3⟩, fun hn => absurd hk (by omega)⟩
  have e : (s.drop f).take (k + 1 - f) = (s.drop f).take (k - f) ++ [s[k]] := by
    rw [show k + 1 - f = (k - f) + 1 by omega, List.take_succ_eq_append_getElem (by rw [List.length_drop]; omega)]
    congr 2
    rw [List.getElem_drop]
    congr 1
    omega
  rw [e, List.mem_append, List.mem_singleton, not_or]
  exact ⟨h2, fun e => hc e.symm⟩
theorem WInv.cut {s : List UInt8} {k f : Nat} {P : List (List UInt8)} (h : WInv s k f P) (hk : k < s.length) (hc : s[k] = 32) : WInv s (k + 1) (k + 1) (P ++ [(s.drop f).take (k - f)]) := by
  obtain ⟨h1, h2, h3⟩ := h.mid (by omega)
  have e : s.drop f = (s.drop f).take (k - f) ++ 32 :: s.drop (k + 1) := by
    have e1 : (s.drop f).drop (k - f) = s[k] :: s.drop (k + 1) := by
      rw [List.drop_drop, show f + (k - f) = k by omega]
      exact List.drop_eq_getElem_cons hk
    rw [hc] at e1
    rw [← e1, List.take_append_drop]
  have e2 : parts 32 (s.drop f) = (s.drop f).take (k - f) :: parts 32 (s.drop (k + 1)) := by
    conv => lhs; rw [e]
    exact parts_step h2 _
  have h4 : P ++ [(s.drop f).take (k - f)] ++ parts 32 (s.drop (k + 1)) = parts 32 s := by
    rw [← h3, e2]
    simp
  refine ⟨?_, fun _ => ⟨Nat.le_refl _, by simp, h4⟩, fun hn => absurd hk (by omega)⟩
  have := congrArg List.length h4
  have hp := parts_le s
  rw [List.length_append] at this
  omega
theorem WInv.last {s : List UInt8} {f : Nat} {P : List (List UInt8)} (h : WInv s s.length f P) (g : Nat) : WInv s (s.length + 1) g (P ++ [(s.drop f).take (s.length - f)]) := by
  obtain ⟨h1, h2, h3⟩ := h.mid (Nat.le_refl _)
  have e : (s.drop f).take (s.length - f) = s.drop f := List.take_of_length_le (by rw [List.length_drop]; exact Nat.le_refl _)
  rw [e] at h2 ⊢
  rw [parts_no h2] at h3
  refine ⟨by have := congrArg List.length h3; have hp := parts_le s; omega, fun hn => absurd hn (by omega), fun _ => h3⟩

/-- What Words answers. -/
def WordsE (s : List UInt8) (w : World) (e : Ending) (w' : World) : Prop := Below w.heap.size w w' ∧ ∃ A c, e = .returned (.slice A (parts 32 s).length c) ∧ RV w' A (svals (parts 32 s))
theorem wordsE_of {s : List UInt8} {w w' : World} {P : List (List UInt8)} {A : Option Addr} {c : Nat} (h : P = parts 32 s) (hb : Below w.heap.size w w') (hr : RV w' A (svals P)) : WordsE s w (.returned (.slice A (svals P).length c)) w' := by
  subst h
  exact ⟨hb, A, c, by rw [svals_len], hr⟩
theorem str_info : (Tryd.prog.info? 9).map (fun i => (i.zero, i.size, i.bytes)) = some (some (.string ⟨#[]⟩), 1, 16) := by kernel_rfl

set_option maxRecDepth 20000 in
set_option maxHeartbeats 2000000 in
theorem refWords (s : List UInt8) (hs : s.length ≤ 4294967280) (w : World) : Calls Tryd.prog 45 #[.string ⟨s.toArray⟩] w (WordsE s w) := by
  obtain ⟨i0, hi, hz0, hz1, hz2⟩ := info_parts str_info
  have hsz : (⟨s.toArray⟩ : ByteArray).size = s.length := by simp [ByteArray.size]
  go_enter Tryd.func45, Tryd.ntmps45
  go_wp2_with fail
  go_loopw [3, 4, 5] (fun o g i wr => ∃ (k f : Nat) (P : List (List UInt8)) (A : Option Addr) (c : Nat), k ≤ s.length + 1 ∧ i = .int .i64 (k : Int) ∧ g = .int .i64 (f : Int) ∧ o = .slice A (svals P).length c ∧ Hid (WInv s k f P) ∧ Hid (OV wr w.heap.size 9 A c (svals P)) ∧ Hid (Below w.heap.size w wr)) (fun _ _ i _ => s.length + 1 - (intOf i).toNat)
  case atStart => exact ⟨0, 0, [], none, 0, Nat.zero_le _, rfl, rfl, rfl, Lib.hid (WInv.start s), Lib.hid (OV.nil _ _ _), Lib.hid (Below.refl _ _)⟩
  case round =>
    obtain ⟨k, f, P, A, c, hk, rfl, rfl, rfl, HI, HO, HB⟩ := hrel
    have hsb := HB.out.size
    have hPl : (svals P).length ≤ 4294967281 := by have := HI.out.le; rw [svals_len]; omega
    by_cases hlt : k < s.length
    · have hix := at_here s k hlt
      have hfk := (HI.out.mid (by omega)).1
      by_cases hc : s[k] = 32
      · have HC := Lib.hid (HI.out.cut hlt hc)
        have hcx : ((s[k].toNat : Int) == 32) = true := by rw [hc]; rfl
        have hcut := cut_eq s f k
        generalize (s.drop f).take (k - f) = wd at *
        generalize s[k].toNat = x at *
        clear hc HI
        go_wp2_with (at_builtin; refine wp_appendV _ rfl _ _ 86 9 rfl Tryd.underlying86 hi hz0 hz1 hz2 rfl w.heap.size A (some ⟨wr.heap.size, 0, none⟩) c 1 (svals P) [.string ⟨wd.toArray⟩] rfl rfl (HO.out.below ((Below.refl _ _).alloc (Nat.le_refl _) _)) (RV.one _ _ _) (by simp [Value.oneCell']) (by simp; omega) (by simp; omega) (by simp; omega) ?_)
        intro ys A' c' w2 hk2 _ _ ho2 hg2 _
        obtain rfl : ys = svals (P ++ [wd]) := by rw [hk2.out]; simp [svals]
        have hB2 := (HB.out.alloc hsb (.cells #[.string ⟨wd.toArray⟩] 9)).grown hg2 (by simp; omega) (fun b hb => ((HO.out.alloc (.cells #[.string ⟨wd.toArray⟩] 9)).own_lt b hb).1)
        have HB2 := Lib.hid hB2
        have HO2 := Lib.hid ho2
        clear hk2 ho2 hg2 hB2 hcut
        go_wp2_with fail
        go_roundw
        case rel => exact ⟨k + 1, k + 1, P ++ [wd], A', c', by omega, by go_num, by go_num, rfl, HC, HO2, HB2⟩
        case measure => simp [intOf]; omega
      · have HC := Lib.hid (HI.out.skip hlt hc)
        have hcx : ((s[k].toNat : Int) == 32) = false := by
          rw [beq_eq_false_iff_ne]
          intro e
          have e' : (s[k].toNat : Int) = 32 := e
          exact hc (show s[k] = UInt8.ofNat 32 from u8_eq (n := 32) (by decide) (by omega))
        generalize s[k].toNat = x at *
        clear hc HI
        go_wp2_with fail
        go_roundw
        case rel => exact ⟨k + 1, f, P, A, c, by omega, by go_num, rfl, rfl, HC, HO, HB⟩
        case measure => simp [intOf]; omega
    · by_cases hle : k = s.length
      · subst hle
        have hfk := (HI.out.mid (by omega)).1
        have HC := Lib.hid (HI.out.last (s.length + 1))
        have hcut := cut_eq s f s.length
        generalize (s.drop f).take (s.length - f) = wd at *
        clear HI
        go_wp2_with (at_builtin; refine wp_appendV _ rfl _ _ 86 9 rfl Tryd.underlying86 hi hz0 hz1 hz2 rfl w.heap.size A (some ⟨wr.heap.size, 0, none⟩) c 1 (svals P) [.string ⟨wd.toArray⟩] rfl rfl (HO.out.below ((Below.refl _ _).alloc (Nat.le_refl _) _)) (RV.one _ _ _) (by simp [Value.oneCell']) (by simp; omega) (by simp; omega) (by simp; omega) ?_)
        intro ys A' c' w2 hk2 _ _ ho2 hg2 _
        obtain rfl : ys = svals (P ++ [wd]) := by rw [hk2.out]; simp [svals]
        have hB2 := (HB.out.alloc hsb (.cells #[.string ⟨wd.toArray⟩] 9)).grown hg2 (by simp; omega) (fun b hb => ((HO.out.alloc (.cells #[.string ⟨wd.toArray⟩] 9)).own_lt b hb).1)
        have HB2 := Lib.hid hB2
        have HO2 := Lib.hid ho2
        clear hk2 ho2 hg2 hB2 hcut
        go_wp2_with fail
        go_roundw
        case rel => exact ⟨s.length + 1, s.length + 1, P ++ [wd], A', c', by omega, by go_num, by go_num, rfl, HC, HO2, HB2⟩
        case measure => first | (simp [intOf]; done) | (simp [intOf]; omega)
      · obtain rfl : k = s.length + 1 := by omega
        have HE := Lib.hid (HI.out.fin (by omega))
        have hcast : ¬ ((s.length + 1 : Nat) : Int) ≤ (s.length : Int) := by omega
        go_wp2_with fail
        go_ret
        exact wordsE_of HE.out HB.out HO.out.rv
end Go.Proofs.YtcinohmhhglpjaaDoor
