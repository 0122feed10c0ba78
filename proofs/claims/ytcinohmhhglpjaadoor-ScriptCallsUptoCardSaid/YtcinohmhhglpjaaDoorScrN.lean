/- ScrN: put together by merge.py of: ScrK, ScrN. -/
import Derived.Test.YtcinohmhhglpjaaDoorScrE
import Derived.Test.YtcinohmhhglpjaaDoorFr
import Derived.Test.YtcinohmhhglpjaaDoorScrRr
import Derived.Test.YtcinohmhhglpjaaDoorLaid
import Derived.WalkLawsBesides
import Derived.Lib.AtoiErrMem
/- Contracts of package script's reader: need, next. -/
namespace Go.Proofs.YtcinohmhhglpjaaDoor
open Go.RowKit

abbrev Tr : TypeId := 118
def faultV : Value := .iface 114 (.agg #[])
def svals (L : List (List UInt8)) : List Value := L.map fun s => .string ⟨s.toArray⟩
/-- A reader in block b: these words are left. -/
def RdAt (w : World) (b N : Nat) (L : List (List UInt8)) : Prop := ∃ A c, Blk w b Tr #[.slice A L.length c] ∧ L.length ≤ c ∧ c ≤ 9223372036854775807 ∧ RV w A (svals L) ∧ (∀ s ∈ L, s.length ≤ 140737488351232) ∧ ∀ g, A.map (·.block) = some g → g < N
theorem RdAt.below {w w' : World} {b N : Nat} {L : List (List UInt8)} (h : RdAt w b N L) (hb : Below w.heap.size w w') : RdAt w' b N L := by
  obtain ⟨A, c, h1, h2, h3, h4, h5⟩ := h
  exact ⟨A, c, h1.kept hb, h2, h3, h4.below hb, h5⟩
theorem RdAt.lt {w : World} {b N : Nat} {L : List (List UInt8)} (h : RdAt w b N L) : b < w.heap.size := by
  obtain ⟨A, c, h1, _⟩ := h
  exact h1.lt
/-- A block of another kind, laid behind the words, is written. -/
theorem RdAt.setRow {w : World} {b N g : Nat} {L : List (List UInt8)} (h : RdAt w b N L) (hg : g ≠ b) (hN : N ≤ g) (ds : Array Value) : RdAt (w.setRow g ds) b N L := by
  obtain ⟨A, c, h1, h2, h3, h4, h5, h6⟩ := h
  refine ⟨A, c, h1.setRow_other ds hg.symm, h2, h3, ⟨fun hn => ?_⟩, h5, h6⟩
  obtain ⟨b', off, rfl, hlt, hc⟩ := h4.at_ hn
  have := h6 b' rfl
  exact ⟨b', off, rfl, by simpa using hlt, fun j x hx => (cell_setRow_other w g ds _ (by simp only; omega)).trans (hc j x hx)⟩
/-- What a reader's call ends in: the value, and what is left; or it gives up. -/
def Gives {α : Type} (o : Option (α × List (List UInt8))) (val : α → Value) (b N : Nat) (w : World) (e : Ending) (w' : World) : Prop :=
  (∃ x r, o = some (x, r) ∧ e = .returned (val x) ∧ RdAt w' b N r ∧ Mods (· = b) w w') ∨ (o = none ∧ e = .panicked [{ v := faultV, recovered := false }] ∧ Mods (· = b) w w')

set_option maxRecDepth 20000 in
theorem needT (v : Value) (w : World) : Calls Tryd.prog 41 #[v, .bool true] w fun e w' => e = .returned (.tuple #[]) ∧ w' = w := by
  have hnot : ∀ (x : Bool) (w : World), (Op.unary .not (.bool x)).run Tryd.prog w = .ok (.bool (!x)) w := fun _ _ => rfl
  go_enter Tryd.func41, Tryd.ntmps41
  go_wp2
  go_end0
  exact ⟨rfl, rfl⟩
set_option maxRecDepth 20000 in
theorem needF (v : Value) (w : World) : Calls Tryd.prog 41 #[v, .bool false] w fun e w' => e = .panicked [{ v := faultV, recovered := false }] ∧ w' = w := by
  have hnot : ∀ (x : Bool) (w : World), (Op.unary .not (.bool x)).run Tryd.prog w = .ok (.bool (!x)) w := fun _ _ => rfl
  go_enter Tryd.func41, Tryd.ntmps41
  go_wp2
  exact ⟨rfl, rfl, rfl⟩

theorem svals_len (L : List (List UInt8)) : (svals L).length = L.length := by simp [svals]
/-- The words behind the first one. -/
theorem RdAt.step {w : World} {b N g off c : Nat} {s : List UInt8} {t : List (List UInt8)} (hc : (s :: t).length ≤ c) (hm : c ≤ 9223372036854775807) (hr : RV w (some ⟨g, off, none⟩) (svals (s :: t))) (hl : ∀ x ∈ s :: t, x.length ≤ 140737488351232)
    (hN : g < N) (hb : Blk w b Tr #[.slice (some ⟨g, off, none⟩) (s :: t).length c]) (a : Addr) (ha : a = if 1 = c then ⟨g, off, none⟩ else ⟨g, off + 1, none⟩) : RdAt (w.setCell ⟨b, 0, none⟩ (.slice (some a) t.length (c - 1))) b N t := by
  have hg : g ≠ b := by
    rintro rfl
    obtain ⟨g', off', e, _, h0⟩ := hr.at_ (by simp [svals])
    injection e with e
    injection e with e1 e2
    subst e1 e2
    have h1 := h0 0 _ rfl
    have hb' : w.heap[g]? = _ := hb
    simp only [World.cell?, hb'] at h1
    cases off with
    | zero => simp at h1
    | succ n => simp at h1
  refine ⟨some a, c - 1, hb.setCell 0 _, by simp at hc; omega, by omega, ?_, fun x hx => hl x (List.mem_cons_of_mem _ hx), fun k hk => by rw [ha] at hk; split at hk <;> (injection hk with hk; simp only at hk; omega)⟩
  refine ⟨fun hn => ?_⟩
  obtain ⟨g', off', e, hlt, h0⟩ := hr.at_ (by simp [svals])
  injection e with e
  injection e with e1 e2
  subst e1 e2
  have hc1 : 1 ≠ c := by
    rintro rfl
    rw [svals_len] at hn
    rw [List.length_cons] at hc
    omega
  rw [if_neg hc1] at ha
  refine ⟨g, off + 1, by rw [ha], by simpa [World.setCell] using hlt, fun j x hx => ?_⟩
  have h1 := h0 (j + 1) x (by simpa [svals] using hx)
  rw [show off + 1 + j = off + (j + 1) by omega]
  exact (World.cell?_of_block (w := w) (Below.heap_setCell w _ _ g hg)).trans h1

set_option maxRecDepth 20000 in
set_option maxHeartbeats 2000000 in
theorem nextR (b N : Nat) (L : List (List UInt8)) (w : World) (h : RdAt w b N L) :
    Calls Tryd.prog 40 #[.pointer (some ⟨b, 0, none⟩)] w (Gives (rd some L) (fun s => .string ⟨s.toArray⟩) b N w) := by
  obtain ⟨A, c, hb, hlc, hm, hr, hl, hN⟩ := h
  cases L with
  | nil =>
    have c0 := hb.cell 0 rfl
    go_enter Tryd.func40, Tryd.ntmps40
    go_wp2_with (go_at_call 41; refine (needF _ _).mono ?_)
    rintro e w' ⟨rfl, rfl⟩
    go_wp2_with fail
    exact ⟨rfl, .inr ⟨rfl, rfl, .refl _ _⟩⟩
  | cons s t =>
    obtain ⟨g, off, rfl, hgl, h0⟩ := hr.at_ (by simp [svals])
    have c0 := hb.cell 0 rfl
    have f0 := hb.free 0
    have g0 := h0 0 _ rfl
    have HST := Lib.hid (fun a ha => RdAt.step hlc hm hr hl (hN g rfl) hb a ha)
    have HRD : Hid (rd some (s :: t) = some (s, t)) := Lib.hid rfl
    simp only [List.length_cons, Nat.add_zero] at c0 g0 hlc
    have hlen : t.length + 1 ≤ 9223372036854775807 := by omega
    clear hb h0 hr hl hN
    go_enter Tryd.func40, Tryd.ntmps40
    go_wp2_with (go_at_call 41; refine (needT _ _).mono ?_)
    rintro e w' ⟨rfl, rfl⟩
    by_cases hc1 : 1 = c
    · subst hc1
      have hS := HST.out _ (if_pos rfl).symm
      have HS := Lib.hid hS
      have ht0 : t.length = 0 := by omega
      clear hS HST
      go_wp2_with fail
      go_ret
      exact .inl ⟨s, t, HRD.out, rfl, by have := HS.out; rw [ht0] at this; exact this, (Mods.refl (· = b) _).setCell _ (.inl rfl) _⟩
    · have hS := HST.out _ (if_neg hc1).symm
      have HS := Lib.hid hS
      clear hS HST
      go_wp2_with fail
      go_ret
      exact .inl ⟨s, t, HRD.out, rfl, HS.out, (Mods.refl (· = b) _).setCell _ (.inl rfl) _⟩
end Go.Proofs.YtcinohmhhglpjaaDoor
/- Contracts of package script's reader: num, int. -/
namespace Go.Proofs.YtcinohmhhglpjaaDoor
open Go.RowKit
open Go.Lib (parseUintB parseIntB decDigits itoa)

/-- What the program's variables hold, for reading. -/
structure EnvR (B : Nat) (w : World) : Prop where
  env : Env B w
  syn : ∃ tp p, ∀ w', Below B w w' → w'.var? Tryd.prog "strconv.ErrSyntax" = some #[.iface tp p]
  rng : ∃ tp p, ∀ w', Below B w w' → w'.var? Tryd.prog "strconv.ErrRange" = some #[.iface tp p]
  max : ∃ m : Int, ∀ w', Below B w w' → w'.cell? ⟨1, 0, none⟩ = some (.int .i64 m)
theorem EnvR.below {B : Nat} {w w' : World} (h : EnvR B w) (hb : Below B w w') : EnvR B w' := by
  obtain ⟨h1, ⟨a, b, h2⟩, ⟨c, d, h3⟩, ⟨m, h4⟩⟩ := h
  exact ⟨h1.below hb, ⟨a, b, fun v hv => h2 v (hb.trans hv)⟩, ⟨c, d, fun v hv => h3 v (hb.trans hv)⟩, ⟨m, fun v hv => h4 v (hb.trans hv)⟩⟩
theorem EnvR.up {B B' : Nat} {w : World} (h : EnvR B w) (hB : B ≤ B') : EnvR B' w := by
  obtain ⟨h1, ⟨a, b, h2⟩, ⟨c, d, h3⟩, ⟨m, h4⟩⟩ := h
  exact ⟨h1.up hB, ⟨a, b, fun v hv => h2 v (hv.mono hB)⟩, ⟨c, d, fun v hv => h3 v (hv.mono hB)⟩, ⟨m, fun v hv => h4 v (hv.mono hB)⟩⟩
/-- What a call on a block behind B keeps. -/
theorem Mods.low {B b : Nat} {w w' : World} (h : Mods (· = b) w w') (hb : B ≤ b) (hB : B ≤ w.heap.size) : Below B w w' := Mods.old (Below.refl _ _) h hB (fun i _ e => by subst e; exact hb)

theorem parseU (s : List UInt8) (B : Nat) (w : World) (hs : s.length ≤ 140737488351232) (hE : EnvR B w) :
    Calls Tryd.prog 65 #[.string ⟨s.toArray⟩, .int .i64 10, .int .i64 64] w fun e w' => Below w.heap.size w w' ∧
      ((∃ u, parseUintB 64 s = .ok u ∧ e = .returned (.tuple #[.int .u64 (u : Int), .nilIface])) ∨ ((∀ u, parseUintB 64 s ≠ .ok u) ∧ ∃ (n : Int) (N : Nat), e = .returned (.tuple #[.int .u64 n, .iface 144 (.pointer (some ⟨N, 0, none⟩))]))) := by
  have hsz : (⟨s.toArray⟩ : ByteArray).size = s.length := by simp [ByteArray.size]
  obtain ⟨_, ⟨a, b, h2⟩, ⟨c, d, h3⟩, _⟩ := hE
  cases hp : parseUintB 64 s
  · rename_i u
    refine (Tryd.strconv_ParseUint_10_at64_ok ⟨s.toArray⟩ (by rw [hsz]; omega) u hp w).mono ?_
    rintro e w' ⟨rfl, rfl | rfl⟩
    · exact ⟨Below.refl _ _, .inl ⟨u, rfl, rfl⟩⟩
    · exact ⟨Lib.bytesWorld_below _ _ _, .inl ⟨u, rfl, rfl⟩⟩
  · have C : Calls Tryd.prog 65 #[.string ⟨s.toArray⟩, .int .i64 10, .int .i64 64] w fun e w' => ∃ N, e = .returned (.tuple #[.int .u64 0, .iface 144 (.pointer (some ⟨N, 0, none⟩))]) ∧ w.heap.size ≤ N ∧ w'.heap[N]? = some (.cells #[.string ⟨#[80, 97, 114, 115, 101, 85, 105, 110, 116]⟩, .string ⟨s.toArray⟩, .iface a b] 160 (0, 0)) ∧ Below w.heap.size w w' := Any.strconv_ParseUint_10_at64_syntax_var Tryd.laysPu14 ⟨s.toArray⟩ (by rw [hsz]; omega) hp a b w (h2 w (Below.refl _ _))
    refine C.mono ?_
    rintro e w' ⟨N, rfl, _, _, hb⟩
    exact ⟨hb, .inr ⟨(fun u h => by cases h), _, N, rfl⟩⟩
  · refine (Tryd.strconv_ParseUint_10_at64_range_var ⟨s.toArray⟩ (by rw [hsz]; omega) hp c d w (h3 w (Below.refl _ _))).mono ?_
    rintro e w' ⟨N, rfl, _, _, hb⟩
    exact ⟨hb, .inr ⟨(fun u h => by cases h), _, N, rfl⟩⟩
theorem parseI (s : List UInt8) (B : Nat) (w : World) (hs : s.length ≤ 140737488351232) (hE : EnvR B w) :
    Calls Tryd.prog 64 #[.string ⟨s.toArray⟩, .int .i64 10, .int .i64 64] w fun e w' => Below w.heap.size w w' ∧
      ((∃ u, parseIntB 64 s = .ok u ∧ e = .returned (.tuple #[.int .i64 u, .nilIface])) ∨ ((∀ u, parseIntB 64 s ≠ .ok u) ∧ ∃ (n : Int) (N : Nat), e = .returned (.tuple #[.int .i64 n, .iface 144 (.pointer (some ⟨N, 0, none⟩))]))) := by
  have hsz : (⟨s.toArray⟩ : ByteArray).size = s.length := by simp [ByteArray.size]
  obtain ⟨_, ⟨a, b, h2⟩, ⟨c, d, h3⟩, _⟩ := hE
  cases hp : parseIntB 64 s
  · rename_i u
    refine (Tryd.strconv_ParseInt_10_at64_ok ⟨s.toArray⟩ (by rw [hsz]; omega) u hp w).mono ?_
    rintro e w' ⟨rfl, rfl | ⟨t, rfl⟩⟩
    · exact ⟨Below.refl _ _, .inl ⟨u, rfl, rfl⟩⟩
    · exact ⟨Lib.bytesWorld_below _ _ _, .inl ⟨u, rfl, rfl⟩⟩
  · have C : Calls Tryd.prog 64 #[.string ⟨s.toArray⟩, .int .i64 10, .int .i64 64] w fun e w' => ∃ N, e = .returned (.tuple #[.int .i64 0, .iface 144 (.pointer (some ⟨N, 0, none⟩))]) ∧ w.heap.size ≤ N ∧ w'.heap[N]? = some (.cells #[.string ⟨#[80, 97, 114, 115, 101, 73, 110, 116]⟩, .string ⟨s.toArray⟩, .iface a b] 160 (0, 0)) ∧ Below w.heap.size w w' := Any.strconv_ParseInt_10_at64_syntax_var Tryd.laysC174 ⟨s.toArray⟩ (by rw [hsz]; omega) hp a b w (h2 w (Below.refl _ _))
    refine C.mono ?_
    rintro e w' ⟨N, rfl, _, _, hb⟩
    exact ⟨hb, .inr ⟨(fun u h => by cases h), _, N, rfl⟩⟩
  · refine (Tryd.strconv_ParseInt_10_at64_range_var ⟨s.toArray⟩ (by rw [hsz]; omega) hp c d w (h3 w (Below.refl _ _))).mono ?_
    rintro e w' ⟨N, rfl, _, _, hb⟩
    exact ⟨hb, .inr ⟨(fun u h => by cases h), _, N, rfl⟩⟩

theorem gives_no {α : Type} {o : Option (α × List (List UInt8))} {val : α → Value} {b N : Nat} {w w' : World} (h : o = none) (m : Mods (· = b) w w') : Gives o val b N w (.panicked [{ v := faultV, recovered := false }]) w' := .inr ⟨h, rfl, m⟩
theorem gives_yes {α : Type} {o : Option (α × List (List UInt8))} {val : α → Value} {b N : Nat} {w w' : World} {x : α} {r : List (List UInt8)} {v : Value} (h : o = some (x, r)) (hv : v = val x) (hr : RdAt w' b N r) (m : Mods (· = b) w w') : Gives o val b N w (.returned v) w' := by
  subst hv; exact .inl ⟨x, r, h, rfl, hr, m⟩
theorem pnum_ok {s : List UInt8} {u : Nat} (h : parseUintB 64 s = .ok u) : pnum s = if decDigits u = s then some (u : Int) else none := by unfold pnum; rw [h]
theorem pnum_not {s : List UInt8} (h : ∀ u, parseUintB 64 s ≠ .ok u) : pnum s = none := by
  unfold pnum
  split
  · rename_i u hu; exact absurd hu (h u)
  · rfl
theorem pint_ok {s : List UInt8} {u : Int} (h : parseIntB 64 s = .ok u) : pint s = if itoa u = s then some u else none := by unfold pint; rw [h]
theorem pint_not {s : List UInt8} (h : ∀ u, parseIntB 64 s ≠ .ok u) : pint s = none := by
  unfold pint
  split
  · rename_i u hu; exact absurd hu (h u)
  · rfl
theorem rd_none {α : Type} {p : List UInt8 → Option α} {s : List UInt8} (h : p s = none) (t : List (List UInt8)) : rd p (s :: t) = none := by simp [rd, h]
theorem rd_next {L r : List (List UInt8)} {s : List UInt8} (h : rd some L = some (s, r)) : L = s :: r := by
  obtain ⟨x, h1, h2⟩ := rd_eq h
  injection h2 with h2
  rw [h1, h2]
theorem rd_nil {L : List (List UInt8)} (h : rd some L = none) : L = [] := by
  cases L with
  | nil => rfl
  | cons s r => simp [rd] at h
theorem str_eq_of {a b : List UInt8} (h : a = b) : (a == b) = true := by subst h; simp
theorem str_ne_of {a b : List UInt8} (h : ¬ a = b) : (a == b) = false := beq_eq_false_iff_ne.2 h

set_option maxRecDepth 20000 in
set_option maxHeartbeats 400000 in
theorem numR (B b N : Nat) (L : List (List UInt8)) (w : World) (h : RdAt w b N L) (hE : EnvR B w) (hb : B ≤ b) (hB : B ≤ w.heap.size) :
    Calls Tryd.prog 43 #[.pointer (some ⟨b, 0, none⟩)] w (Gives (rd pnum L) (.int .u64) b N w) := by
  have hwl : ∀ s ∈ L, s.length ≤ 140737488351232 := by obtain ⟨A, c, _, _, _, _, h5, _⟩ := h; exact h5
  have HWL := Lib.hid hwl
  have C := Lib.hid (nextR b N L w h)
  have HE := Lib.hid hE
  clear h hE hwl
  go_enter Tryd.func43, Tryd.ntmps43
  go_wp2_with (go_at_call 40; refine C.out.mono ?_)
  rintro e w1 (⟨s, t, hs, rfl, h1, m1⟩ | ⟨hs, rfl, m1⟩)
  · obtain rfl := rd_next hs
    have hsl := HWL.out s (List.mem_cons_self ..)
    have H1 := Lib.hid h1
    have M1 := Lib.hid m1
    have HE1 := Lib.hid (HE.out.below (m1.low hb hB))
    clear h1 m1 hs C HWL
    go_wp2_with (go_at_call 65; refine (parseU s B _ hsl HE1.out).mono ?_)
    rintro e w2 ⟨hb2, ⟨u, hu, rfl⟩ | ⟨hu, n, N2, rfl⟩⟩
    · have hu1 : u ≤ 18446744073709551615 := by
        have := Lib.parseUintB_le hu
        rw [show (2 : Nat) ^ 64 - 1 = 18446744073709551615 by decide] at this
        exact this
      have HP := Lib.hid (pnum_ok hu)
      have H2 := Lib.hid (H1.out.below hb2)
      have M2 := Lib.hid (M1.out.below hb2)
      have HE2 := Lib.hid (HE1.out.below (hb2.mono (Nat.le_trans hB M1.out.size)))
      clear hu hb2 H1 M1 HE1
      go_wp2_with fail
      have hu0 : (0 : Int) ≤ (u : Int) := by omega
      have hu2 : (u : Int) ≤ 18446744073709551615 := by omega
      have HPW := HE2.out.env.here
      have CF := fmtUint (u : Int) hu0 hu2 _ HPW
      refine CF.mono ?_
      rintro e w3 ⟨rfl, hb3⟩
      have H3 := Lib.hid (H2.out.below hb3)
      have M3 := Lib.hid (M2.out.below hb3)
      clear hb3 H2 M2 HE2
      rw [udec_nat]
      by_cases hd : decDigits u = s
      · have he := str_eq_of hd
        have HR : Hid (rd pnum (s :: t) = some ((u : Int), t)) := Lib.hid (rd_cons (by rw [HP.out, if_pos hd]) t)
        clear hd
        go_wp2_with (go_at_call 41; refine (needT _ _).mono ?_)
        rintro e w4 ⟨rfl, rfl⟩
        go_wp2_with fail
        go_ret
        exact gives_yes HR.out rfl H3.out M3.out
      · have he := str_ne_of hd
        have HR : Hid (rd pnum (s :: t) = none) := Lib.hid (rd_none (by rw [HP.out, if_neg hd]) t)
        clear hd
        go_wp2_with (go_at_call 41; refine (needF _ _).mono ?_)
        rintro e w4 ⟨rfl, rfl⟩
        go_wp2_with fail
        exact ⟨rfl, gives_no HR.out M3.out⟩
    · have HR : Hid (rd pnum (s :: t) = none) := Lib.hid (rd_none (pnum_not hu) t)
      have M2 := Lib.hid (M1.out.below hb2)
      clear hu hb2 H1 M1 HE1
      go_wp2_with (go_at_call 41; refine (needF _ _).mono ?_)
      rintro e w4 ⟨rfl, rfl⟩
      go_wp2_with fail
      exact ⟨rfl, gives_no HR.out M2.out⟩
  · obtain rfl := rd_nil hs
    go_wp2_with fail
    exact ⟨rfl, gives_no rfl m1⟩
set_option maxRecDepth 20000 in
set_option maxHeartbeats 400000 in
theorem intR (B b N : Nat) (L : List (List UInt8)) (w : World) (h : RdAt w b N L) (hE : EnvR B w) (hb : B ≤ b) (hB : B ≤ w.heap.size) :
    Calls Tryd.prog 42 #[.pointer (some ⟨b, 0, none⟩)] w (Gives (rd pint L) (.int .i64) b N w) := by
  have hwl : ∀ s ∈ L, s.length ≤ 140737488351232 := by obtain ⟨A, c, _, _, _, _, h5, _⟩ := h; exact h5
  have HWL := Lib.hid hwl
  have C := Lib.hid (nextR b N L w h)
  have HE := Lib.hid hE
  clear h hE hwl
  go_enter Tryd.func42, Tryd.ntmps42
  go_wp2_with (go_at_call 40; refine C.out.mono ?_)
  rintro e w1 (⟨s, t, hs, rfl, h1, m1⟩ | ⟨hs, rfl, m1⟩)
  · obtain rfl := rd_next hs
    have hsl := HWL.out s (List.mem_cons_self ..)
    have H1 := Lib.hid h1
    have M1 := Lib.hid m1
    have HE1 := Lib.hid (HE.out.below (m1.low hb hB))
    clear h1 m1 hs C HWL
    go_wp2_with (go_at_call 64; refine (parseI s B _ hsl HE1.out).mono ?_)
    rintro e w2 ⟨hb2, ⟨u, hu, rfl⟩ | ⟨hu, n, N2, rfl⟩⟩
    · have hu1 := parseIntB_in hu
      have HP := Lib.hid (pint_ok hu)
      have H2 := Lib.hid (H1.out.below hb2)
      have M2 := Lib.hid (M1.out.below hb2)
      have HE2 := Lib.hid (HE1.out.below (hb2.mono (Nat.le_trans hB M1.out.size)))
      clear hu hb2 H1 M1 HE1
      go_wp2_with fail
      have HPW := HE2.out.env.here
      have CF := fmtInt u hu1.1 hu1.2 _ HPW
      refine CF.mono ?_
      rintro e w3 ⟨rfl, hb3⟩
      have H3 := Lib.hid (H2.out.below hb3)
      have M3 := Lib.hid (M2.out.below hb3)
      clear hb3 H2 M2 HE2
      by_cases hd : itoa u = s
      · have he := str_eq_of hd
        have HR : Hid (rd pint (s :: t) = some (u, t)) := Lib.hid (rd_cons (by rw [HP.out, if_pos hd]) t)
        clear hd
        go_wp2_with (go_at_call 41; refine (needT _ _).mono ?_)
        rintro e w4 ⟨rfl, rfl⟩
        go_wp2_with fail
        go_ret
        exact gives_yes HR.out rfl H3.out M3.out
      · have he := str_ne_of hd
        have HR : Hid (rd pint (s :: t) = none) := Lib.hid (rd_none (by rw [HP.out, if_neg hd]) t)
        clear hd
        go_wp2_with (go_at_call 41; refine (needF _ _).mono ?_)
        rintro e w4 ⟨rfl, rfl⟩
        go_wp2_with fail
        exact ⟨rfl, gives_no HR.out M3.out⟩
    · have HR : Hid (rd pint (s :: t) = none) := Lib.hid (rd_none (pint_not hu) t)
      have M2 := Lib.hid (M1.out.below hb2)
      clear hu hb2 H1 M1 HE1
      go_wp2_with (go_at_call 41; refine (needF _ _).mono ?_)
      rintro e w4 ⟨rfl, rfl⟩
      go_wp2_with fail
      exact ⟨rfl, gives_no HR.out M2.out⟩
  · obtain rfl := rd_nil hs
    go_wp2_with fail
    exact ⟨rfl, gives_no rfl m1⟩
end Go.Proofs.YtcinohmhhglpjaaDoor
