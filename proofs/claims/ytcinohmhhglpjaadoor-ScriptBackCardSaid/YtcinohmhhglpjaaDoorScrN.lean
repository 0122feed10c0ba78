/- Contracts of package script's reader: num, int. -/
import Derived.Test.YtcinohmhhglpjaaDoorScrK
import Derived.Test.YtcinohmhhglpjaaDoorLaid
import Derived.Lib.AtoiErrMem
namespace Go.Proofs.YtcinohmhhglpjaaDoor
open Go.RowKit
open Go.Lib (parseUintB parseIntB decDigits itoa)

/-- What the program's variables hold, for reading. -/
structure EnvR (B : Nat) (w : World) : Prop where
  env : Env B w
  syn : ∃ tp p, ∀ w', Below B w w' → w'.var? Tryd.prog "strconv.ErrSyntax" = some #[.iface tp p]
  rng : ∃ tp p, ∀ w', Below B w w' → w'.var? Tryd.prog "strconv.ErrRange" = some #[.iface tp p]
  max : ∃ m : Int, ∀ w', Below B w w' → w'.cell? ⟨1, 0, none⟩ = some (.int .i64 m)
theorem EnvR.below {B : Nat} {w w' : World} (h : EnvR B w) (hb : Below B w w') : EnvR B w' := by
  obtain ⟨h1, ⟨a, b, h2⟩, ⟨c, d, h3⟩, ⟨m, h4⟩⟩ := h
  exact ⟨h1.below hb, ⟨a, b, fun v hv => h2 v (hb.trans hv)⟩, ⟨c, d, fun v hv => h3 v (hb.trans hv)⟩, ⟨m, fun v hv => h4 v (hb.trans hv)⟩⟩
theorem EnvR.up {B B' : Nat} {w : World} (h : EnvR B w) (hB : B ≤ B') : EnvR B' w := by
  obtain ⟨h1, ⟨a, b, h2⟩, ⟨c, d, h3⟩, ⟨m, h4⟩⟩ := h
  exact ⟨h1.up hB, ⟨a, b, fun v hv => h2 v (hv.mono hB)⟩, ⟨c, d, fun v hv => h3 v (hv.mono hB)⟩, ⟨m, fun v hv => h4 v (hv.mono hB)⟩⟩
/-- What a call on a block behind B keeps. -/
theorem Mods.low {B b : Nat} {w w' : World} (h : Mods (· = b) w w') (hb : B ≤ b) (hB : B ≤ w.heap.size) : Below B w w' := Mods.old (Below.refl _ _) h hB (fun i _ e => by subst e; exact hb)

theorem parseU (s : List UInt8) (B : Nat) (w : World) (hs : s.length ≤ 140737488351232) (hE : EnvR B w) :
    Calls Tryd.prog 65 #[.string ⟨s.toArray⟩, .int .i64 10, .int .i64 64] w fun e w' => Below w.heap.size w w' ∧
      ((∃ u, parseUintB 64 s = .ok u ∧ e = .returned (.tuple #[.int .u64 (u : Int), .nilIface])) ∨ ((∀ u, parseUintB 64 s ≠ .ok u) ∧ ∃ (n : Int) (N : Nat), e = .returned (.tuple #[.int .u64 n, .iface 144 (.pointer (some ⟨N, 0, none⟩))]))) := by
  have hsz : (⟨s.toArray⟩ : ByteArray).size = s.length := by simp [ByteArray.size]
  obtain ⟨_, ⟨a, b, h2⟩, ⟨c, d, h3⟩, _⟩ := hE
  cases hp : parseUintB 64 s
  · rename_i u
    refine (Tryd.strconv_ParseUint_10_at64_ok ⟨s.toArray⟩ (by rw [hsz]; omega) u hp w).mono ?_
    rintro e w' ⟨rfl, rfl | rfl⟩
    · exact ⟨Below.refl _ _, .inl ⟨u, rfl, rfl⟩⟩
    · exact ⟨Lib.bytesWorld_below _ _ _, .inl ⟨u, rfl, rfl⟩⟩
  · have C : Calls Tryd.prog 65 #[.string ⟨s.toArray⟩, .int .i64 10, .int .i64 64] w fun e w' => ∃ N, e = .returned (.tuple #[.int .u64 0, .iface 144 (.pointer (some ⟨N, 0, none⟩))]) ∧ w.heap.size ≤ N ∧ w'.heap[N]? = some (.cells #[.string ⟨#[80, 97, 114, 115, 101, 85, 105, 110, 116]⟩, .string ⟨s.toArray⟩, .iface a b] 160 (0, 0)) ∧ Below w.heap.size w w' := Any.strconv_ParseUint_10_at64_syntax_var Tryd.laysPu14 ⟨s.toArray⟩ (by rw [hsz]; omega) hp a b w (h2 w (Below.refl _ _))
    refine C.mono ?_
    rintro e w' ⟨N, rfl, _, _, hb⟩
    exact ⟨hb, .inr ⟨(fun u h => by cases h), _, N, rfl⟩⟩
  · refine (Tryd.strconv_ParseUint_10_at64_range_var ⟨s.toArray⟩ (by rw [hsz]; omega) hp c d w (h3 w (Below.refl _ _))).mono ?_
    rintro e w' ⟨N, rfl, _, _, hb⟩
    exact ⟨hb, .inr ⟨(fun u h => by cases h), _, N, rfl⟩⟩
theorem parseI (s : List UInt8) (B : Nat) (w : World) (hs : s.length ≤ 140737488351232) (hE : EnvR B w) :
    Calls Tryd.prog 64 #[.string ⟨s.toArray⟩, .int .i64 10, .int .i64 64] w fun e w' => Below w.heap.size w w' ∧
      ((∃ u, parseIntB 64 s = .ok u ∧ e = .returned (.tuple #[.int .i64 u, .nilIface])) ∨ ((∀ u, parseIntB 64 s ≠ .ok u) ∧ ∃ (n : Int) (N : Nat), e = .returned (.tuple #[.int .i64 n, .iface 144 (.pointer (some ⟨N, 0, none⟩))]))) := by
  have hsz : (⟨s.toArray⟩ : ByteArray).size = s.length := by simp [ByteArray.size]
  obtain ⟨_, ⟨a, b, h2⟩, ⟨c, d, h3⟩, _⟩ := hE
  cases hp : parseIntB 64 s
  · rename_i u
    refine (Tryd.strconv_ParseInt_10_at64_ok ⟨s.toArray⟩ (by rw [hsz]; omega) u hp w).mono ?_
    rintro e w' ⟨rfl, rfl | ⟨t, rfl⟩⟩
    · exact ⟨Below.refl _ _, .inl ⟨u, rfl, rfl⟩⟩
    · exact ⟨Lib.bytesWorld_below _ _ _, .inl ⟨u, rfl, rfl⟩⟩
  · have C : Calls Tryd.prog 64 #[.string ⟨s.toArray⟩, .int .i64 10, .int .i64 64] w fun e w' => ∃ N, e = .returned (.tuple #[.int .i64 0, .iface 144 (.pointer (some ⟨N, 0, none⟩))]) ∧ w.heap.size ≤ N ∧ w'.heap[N]? = some (.cells #[.string ⟨#[80, 97, 114, 115, 101, 73, 110, 116]⟩, .string ⟨s.toArray⟩, .iface a b] 160 (0, 0)) ∧ Below w.heap.size w w' := Any.strconv_ParseInt_10_at64_syntax_var Tryd.laysC174 ⟨s.toArray⟩ (by rw [hsz]; omega) hp a b w (h2 w (Below.refl _ _))
    refine C.mono ?_
    rintro e w' ⟨N, rfl, _, _, hb⟩
    exact ⟨hb, .inr ⟨(fun u h => by cases h), _, N, rfl⟩⟩
  · refine (Tryd.strconv_ParseInt_10_at64_range_var ⟨s.toArray⟩ (by rw [hsz]; omega) hp c d w (h3 w (Below.refl _ _))).mono ?_
    rintro e w' ⟨N, rfl, _, _, hb⟩
    exact ⟨hb, .inr ⟨(fun u h => by cases h), _, N, rfl⟩⟩

theorem gives_no {α : Type} {o : Option (α × List (List UInt8))} {val : α → Value} {b N : Nat} {w w' : World} (h : o = none) (m : Mods (· = b) w w') : Gives o val b N w (.panicked [{ v := faultV, recovered := false }]) w' := .inr ⟨h, rfl, m⟩
theorem gives_yes {α : Type} {o : Option (α × List (List UInt8))} {val : α → Value} {b N : Nat} {w w' : World} {x : α} {r : List (List UInt8)} {v : Value} (h : o = some (x, r)) (hv : v = val x) (hr : RdAt w' b N r) (m : Mods (· = b) w w') : Gives o val b N w (.returned v) w' := by
  subst hv; exact .inl ⟨x, r, h, rfl, hr, m⟩
theorem pnum_ok {s : List UInt8} {u : Nat} (h : parseUintB 64 s = .ok u) : pnum s = if decDigits u = s then some (u : Int) else none := by unfold pnum; rw [h]
theorem pnum_not {s : List UInt8} (h : ∀ u, parseUintB 64 s ≠ .ok u) : pnum s = none := by
  unfold pnum
  split
  · rename_i u hu; exact absurd hu (h u)
  · rfl
theorem pint_ok {s : List UInt8} {u : Int} (h : parseIntB 64 s = .ok u) : pint s = if itoa u = s then some u else none := by unfold pint; rw [h]
theorem pint_not {s : List UInt8} (h : ∀ u, parseIntB 64 s ≠ .ok u) : pint s = none := by
  unfold pint
  split
  · rename_i u hu; exact absurd hu (h u)
  · rfl
theorem rd_none {α : Type} {p : List UInt8 → Option α} {s : List UInt8} (h : p s = none) (t : List (List UInt8)) : rd p (s :: t) = none := by simp [rd, h]
theorem rd_next {L r : List (List UInt8)} {s : List UInt8} (h : rd some L = some (s, r)) : L = s :: r := by
  obtain ⟨x, h1, h2⟩ := rd_eq h
  injection h2 with h2
  rw [h1, h2]
theorem rd_nil {L : List (List UInt8)} (h : rd some L = none) : L = [] := by
  cases L with
  | nil => rfl
  | cons s r => simp [rd] at h
theorem str_eq_of {a b : List UInt8} (h : a = b) : (a == b) = true := by subst h; simp
theorem str_ne_of {a b : List UInt8} (h : ¬ a = b) : (a == b) = false := beq_eq_false_iff_ne.2 h

set_option maxRecDepth 20000 in
set_option maxHeartbeats 400000 in
theorem numR (B b N : Nat) (L : List (List UInt8)) (w : World) (h : RdAt w b N L) (hE : EnvR B w) (hb : B ≤ b) (hB : B ≤ w.heap.size) :
    Calls Tryd.prog 43 #[.pointer (some ⟨b, 0, none⟩)] w (Gives (rd pnum L) (.int .u64) b N w) := by
  have hwl : ∀ s ∈ L, s.length ≤ 140737488351232 := by obtain ⟨A, c, _, _, _, _, h5, _⟩ := h; exact h5
  have HWL := Lib.hid hwl
  have C := Lib.hid (nextR b N L w h)
  have HE := Lib.hid hE
  clear h hE hwl
  go_enter Tryd.func43, Tryd.ntmps43
  go_wp2_with (go_at_call 40; refine C.out.mono ?_)
  rintro e w1 (⟨s, t, hs, rfl, h1, m1⟩ | ⟨hs, rfl, m1⟩)
  · obtain rfl := rd_next hs
    have hsl := HWL.out s (List.mem_cons_self ..)
    have H1 := Lib.hid h1
    have M1 := Lib.hid m1
    have HE1 := Lib.hid (HE.out.below (m1.low hb hB))
    clear h1 m1 hs C HWL
    go_wp2_with (go_at_call 65; refine (parseU s B _ hsl HE1.out).mono ?_)
    rintro e w2 ⟨hb2, ⟨u, hu, rfl⟩ | ⟨hu, n, N2, rfl⟩⟩
    · have hu1 : u ≤ 18446744073709551615 := by
        have := Lib.parseUintB_le hu
        rw [show (2 : Nat) ^ 64 - 1 = 18446744073709551615 by decide] at this
        exact this
      have HP := Lib.hid (pnum_ok hu)
      have H2 := Lib.hid (H1.out.below hb2)
      have M2 := Lib.hid (M1.out.below hb2)
      have HE2 := Lib.hid (HE1.out.below (hb2.mono (Nat.le_trans hB M1.out.size)))
      clear hu hb2 H1 M1 HE1
      go_wp2_with fail
      have hu0 : (0 : Int) ≤ (u : Int) := by omega
      have hu2 : (u : Int) ≤ 18446744073709551615 := by omega
      have HPW := HE2.out.env.here
      have CF := fmtUint (u : Int) hu0 hu2 _ HPW
      refine CF.mono ?_
      rintro e w3 ⟨rfl, hb3⟩
      have H3 := Lib.hid (H2.out.below hb3)
      have M3 := Lib.hid (M2.out.below hb3)
      clear hb3 H2 M2 HE2
      rw [udec_nat]
      by_cases hd : decDigits u = s
      · have he := str_eq_of hd
        have HR : Hid (rd pnum (s :: t) = some ((u : Int), t)) := Lib.hid (rd_cons (by rw [HP.out, if_pos hd]) t)
        clear hd
        go_wp2_with (go_at_call 41; refine (needT _ _).mono ?_)
        rintro e w4 ⟨rfl, rfl⟩
        go_wp2_with fail
        go_ret
        exact gives_yes HR.out rfl H3.out M3.out
      · have he := str_ne_of hd
        have HR : Hid (rd pnum (s :: t) = none) := Lib.hid (rd_none (by rw [HP.out, if_neg hd]) t)
        clear hd
        go_wp2_with (go_at_call 41; refine (needF _ _).mono ?_)
        rintro e w4 ⟨rfl, rfl⟩
        go_wp2_with fail
        exact ⟨rfl, gives_no HR.out M3.out⟩
    · have HR : Hid (rd pnum (s :: t) = none) := Lib.hid (rd_none (pnum_not hu) t)
      have M2 := Lib.hid (M1.out.below hb2)
      clear hu hb2 H1 M1 HE1
      go_wp2_with (go_at_call 41; refine (needF _ _).mono ?_)
      rintro e w4 ⟨rfl, rfl⟩
      go_wp2_with fail
      exact ⟨rfl, gives_no HR.out M2.out⟩
  · obtain rfl := rd_nil hs
    go_wp2_with fail
    exact ⟨rfl, gives_no rfl m1⟩
set_option maxRecDepth 20000 in
set_option maxHeartbeats 400000 in
theorem intR (B b N : Nat) (L : List (List UInt8)) (w : World) (h : RdAt w b N L) (hE : EnvR B w) (hb : B ≤ b) (hB : B ≤ w.heap.size) :
    Calls Tryd.prog 42 #[.pointer (some ⟨b, 0, none⟩)] w (Gives (rd pint L) (.int .i64) b N w) := by
  have hwl : ∀ s ∈ L, s.length ≤ 140737488351232 := by obtain ⟨A, c, _, _, _, _, h5, _⟩ := h; exact h5
  have HWL := Lib.hid hwl
  have C := Lib.hid (nextR b N L w h)
  have HE := Lib.hid hE
  clear h hE hwl
  go_enter Tryd.func42, Tryd.ntmps42
  go_wp2_with (go_at_call 40; refine C.out.mono ?_)
  rintro e w1 (⟨s, t, hs, rfl, h1, m1⟩ | ⟨hs, rfl, m1⟩)
  · obtain rfl := rd_next hs
    have hsl := HWL.out s (List.mem_cons_self ..)
    have H1 := Lib.hid h1
    have M1 := Lib.hid m1
    have HE1 := Lib.hid (HE.out.below (m1.low hb hB))
    clear h1 m1 hs C HWL
    go_wp2_with (go_at_call 64; refine (parseI s B _ hsl HE1.out).mono ?_)
    rintro e w2 ⟨hb2, ⟨u, hu, rfl⟩ | ⟨hu, n, N2, rfl⟩⟩
    · have hu1 := parseIntB_in hu
      have HP := Lib.hid (pint_ok hu)
      have H2 := Lib.hid (H1.out.below hb2)
      have M2 := Lib.hid (M1.out.below hb2)
      have HE2 := Lib.hid (HE1.out.below (hb2.mono (Nat.le_trans hB M1.out.size)))
      clear hu hb2 H1 M1 HE1
      go_wp2_with fail
      have HPW := HE2.out.env.here
      have CF := fmtInt u hu1.1 hu1.2 _ HPW
      refine CF.mono ?_
      rintro e w3 ⟨rfl, hb3⟩
      have H3 := Lib.hid (H2.out.below hb3)
      have M3 := Lib.hid (M2.out.below hb3)
      clear hb3 H2 M2 HE2
      by_cases hd : itoa u = s
      · have he := str_eq_of hd
        have HR : Hid (rd pint (s :: t) = some (u, t)) := Lib.hid (rd_cons (by rw [HP.out, if_pos hd]) t)
        clear hd
        go_wp2_with (go_at_call 41; refine (needT _ _).mono ?_)
        rintro e w4 ⟨rfl, rfl⟩
        go_wp2_with fail
        go_ret
        exact gives_yes HR.out rfl H3.out M3.out
      · have he := str_ne_of hd
        have HR : Hid (rd pint (s :: t) = none) := Lib.hid (rd_none (by rw [HP.out, if_neg hd]) t)
        clear hd
        go_wp2_with (go_at_call 41; refine (needF _ _).mono ?_)
        rintro e w4 ⟨rfl, rfl⟩
        go_wp2_with fail
        exact ⟨rfl, gives_no HR.out M3.out⟩
    · have HR : Hid (rd pint (s :: t) = none) := Lib.hid (rd_none (pint_not hu) t)
      have M2 := Lib.hid (M1.out.below hb2)
      clear hu hb2 H1 M1 HE1
      go_wp2_with (go_at_call 41; refine (needF _ _).mono ?_)
      rintro e w4 ⟨rfl, rfl⟩
      go_wp2_with fail
      exact ⟨rfl, gives_no HR.out M2.out⟩
  · obtain rfl := rd_nil hs
    go_wp2_with fail
    exact ⟨rfl, gives_no rfl m1⟩
end Go.Proofs.YtcinohmhhglpjaaDoor
