/- Slots as the laws use them: a live slot; Open, Save, has; answers. -/
import Derived.Test.YtpfamdcdbjaflaaGreatDoorSlotG
namespace Go.Proofs.YtpfamdcdbjaflaaGreatDoor
open Go.RowKit

def usedV : Option (List UInt8) → Nat
  | none => 0
  | some x => x.length + 8
/-- A live slot of value v; p is its own, g its disk's. -/
def Live (B : Nat) (S : Nat → Prop) (p g : Nat) (b : Nm) (v : Option (List UInt8)) (m : Nat) (D : DSt) (w : World) : Prop :=
  ∃ s V cv O co, SR B S w p g s D V cv O co ∧ Inv b s D v ∧ s.last ≤ m
theorem canon_of {b : Nm} {D : DSt} {v : Option (List UInt8)} {m : Nat} (h : Opened b D v m) : Canon b D := by
  intro f hf n hn
  unfold namesD at hf
  rw [if_neg (by rw [h.dn]; simp)] at hf
  obtain ⟨q, hq, rfl⟩ := List.mem_map.1 hf
  exact h.can q hq n hn
section
variable {B p g m : Nat} {S : Nat → Prop} {w w' : World} {b : Nm} {v : Option (List UInt8)} {D : DSt}
theorem Live.below (h : Live B S p g b v m D w) (hb : Below w.heap.size w w') : Live B S p g b v m D w' := by
  obtain ⟨s, V, cv, O, co, h1, h2, h3⟩ := h
  exact ⟨s, V, cv, O, co, h1.below hb, h2, h3⟩
theorem Live.di (h : Live B S p g b v m D w) : DI S w g D := by obtain ⟨s, V, cv, O, co, h1, _⟩ := h; exact h1.di
theorem Live.sge (h : Live B S p g b v m D w) : ∀ x, S x → B ≤ x := by obtain ⟨s, V, cv, O, co, h1, _⟩ := h; exact h1.sge
theorem Live.ge (h : Live B S p g b v m D w) : B ≤ p := by obtain ⟨s, V, cv, O, co, h1, _⟩ := h; exact h1.ge
theorem Live.lt (h : Live B S p g b v m D w) : p < w.heap.size := by obtain ⟨s, V, cv, O, co, h1, _⟩ := h; exact h1.blk.lt
theorem Live.files (h : Live B S p g b v m D w) : D.files.length ≤ 1 ∧ D.cnt ≤ 1 := by
  obtain ⟨s, V, cv, O, co, h1, h2, _⟩ := h
  obtain ⟨q1, q2, q3⟩ := h2.cnt
  exact ⟨by rw [q2]; exact q3, q1⟩
theorem Live.used (h : Live B S p g b v m D w) : fsize D.files = usedV v := by
  obtain ⟨s, V, cv, O, co, h1, h2, _⟩ := h
  obtain ⟨_, q2, _⟩ := h2.cnt
  rw [q2]
  rcases h2.files with ⟨e, e1, _⟩ | ⟨x, n, e, _, _, e1, _⟩
  · rw [e, e1]; rfl
  · rw [e, e1]; simp [fsize, frame_len, usedV]
theorem live_lower (h : Live B S p g b v m D w) {b0 : Nat} (hb : b0 ≤ B) : Live b0 S p g b v m D w := by
  obtain ⟨s, V, cv, O, co, h1, h2, h3⟩ := h
  exact ⟨s, V, cv, O, co, ⟨h1.blk, h1.di, h1.val.base_le hb, h1.old.base_le hb, Nat.le_trans hb h1.ge, fun x hx => Nat.le_trans hb (h1.sge x hx), h1.ps, h1.vs, h1.os, h1.bl, h1.on⟩, h2, h3⟩
/-- What Open ends in, of a disk that can be opened. -/
def LiveOpen (B : Nat) (S : Nat → Prop) (w : World) (g : Nat) (b : Nm) (v : Option (List UInt8)) (m : Nat) (D' : DSt) (e : Ending) (w' : World) : Prop :=
  ∃ (p : Nat) (S' : Nat → Prop), e = .returned (.tuple #[.pointer (some ⟨p, 0, none⟩), .int .i64 0]) ∧ Live B S' p g b v m D' w' ∧ (∀ x, S' x → S x ∨ w.heap.size ≤ x) ∧ Mods S w w' ∧ w.heap.size ≤ p
theorem liveOpen (h : DI S w g D) (hsge : ∀ x, S x → B ≤ x) (hB : B ≤ w.heap.size) (hE : SEnv B w) (hb : BaseOk b) (ho : Opened b D v m) :
    Calls Tryz.prog 10 #[.pointer (some ⟨g, 0, none⟩), .string ⟨b.toArray⟩] w (LiveOpen B S w g b v m (openD b D).2) := by
  refine (slotOpen h hsge hB hE hb ho.dn (by have := ho.cnt; omega) ho.nms (canon_of ho) ho.ok).mono ?_
  rintro e w' ⟨p, S', V, cv, O, co, rfl, h1, h2, h3, h4⟩
  exact ⟨p, S', rfl, ⟨_, V, cv, O, co, h1, ho.inv, ho.lst⟩, h2, h3, h4⟩
/-- What a Save ends in that nothing hinders. -/
def LiveSaved (B : Nat) (S : Nat → Prop) (w : World) (p g : Nat) (b : Nm) (x : List UInt8) (m : Nat) (D : DSt) (e : Ending) (w' : World) : Prop :=
  ∃ (S' : Nat → Prop) (D' : DSt), e = .returned (.int .i64 0) ∧ Live B S' p g b (some x) (m + 1) D' w' ∧ (∀ y, S' y → S y ∨ w.heap.size ≤ y) ∧ Mods (fun y => S y ∨ y = p) w w' ∧ D'.fuse = 0 ∧ D'.room = D.room ∧ ∃ n, n < 18446744073709551616 ∧ D'.files = [(fileN b n, frameB x)]
theorem liveSave (h : Live B S p g b v m D w) (hB : B ≤ w.heap.size) (hE : SEnv B w) (hb : BaseOk b) (x : List UInt8) (Y : Option Addr) (cy : Nat) (hY : RB w Y x) (hYS : 0 < x.length → ∀ y, Y.map (·.block) = some y → ¬ S y ∧ y ≠ p) (hx : x.length ≤ 65520) (hm : m ≤ 1000000) (hf : D.fuse = 0) (hr : (fsize D.files : Int) + x.length + 8 ≤ D.room) :
    Calls Tryz.prog 13 #[.pointer (some ⟨p, 0, none⟩), .slice Y x.length cy] w (LiveSaved B S w p g b x m D) := by
  obtain ⟨s, V, cv, O, co, h1, h2, h3⟩ := h
  obtain ⟨q1, q2, q3⟩ := h2.cnt
  obtain ⟨e1, e2, e3, e4, e5, e6⟩ := save_fine hb h2 hx (by omega) hf hr
  have hol : s.old.length ≤ 1000 := by
    rcases h2.files with ⟨_, _, e⟩ | ⟨_, _, _, _, _, _, e⟩ <;> rw [e] <;> simp
  refine (slotSave h1 hB hE h2.up x Y cy hY hYS hx (by omega) (by omega) (by rw [q2]; omega) hol).mono ?_
  rintro e w' ⟨rfl, S', V', cv', O', co', r1, r2, r3, _⟩
  exact ⟨S', _, by rw [e1], ⟨_, V', cv', O', co', r1, e2, by omega⟩, r2, r3, e4, e5, s.last + 1, by omega, e6⟩
/-- What a slot answers to 'has'. -/
def hasV (v : Option (List UInt8)) (d : List UInt8) (sm : Bool) : Bool := if sm then decide (v = some d) else decide (v = none)
set_option maxRecDepth 20000 in
set_option maxHeartbeats 2000000 in
theorem lawHasR {s : Sl} {cv co : Nat} {V O : Option Addr} (h1 : SR B S w p g s D V cv O co) (hup : s.down = false) (hhas : s.has = v.isSome) (hval : s.value = v.getD []) (hvl : s.value.length ≤ 100000) (d : List UInt8) (Y : Option Addr) (cy : Nat) (hY : RB w Y d) (sm : Bool) :
    Calls Tryz.prog 14 #[.pointer (some ⟨p, 0, none⟩), .slice Y d.length cy, .bool sm] w fun e w' => e = .returned (.bool (hasV v d sm)) ∧ Below w.heap.size w w' := by
  have LD := Lib.hid (slotLoad h1 hvl)
  unfold LoadEnd at LD
  have HY := Lib.hid hY
  cases v with
  | none =>
    have hle : loadE s = 8 := by unfold loadE; rw [if_neg (by rw [hup]; simp), if_pos (by rw [hhas]; rfl)]
    have hlb : loadB s = [] := by unfold loadB; rw [hle, if_neg (by decide)]
    rw [hle, hlb] at LD
    have hv : hasV none d sm = !sm := by cases sm <;> simp [hasV]
    rw [hv]
    clear h1 hup hhas hval hvl hle hlb hY hv
    cases sm with
    | true =>
      go_enter Tryz.func14, Tryz.ntmps14
      go_wp2_with (go_at_call 11; refine LD.out.mono ?_)
      first | rintro e w1 ⟨A, c, rfl, ho, hb⟩ | rintro e w1 A c rfl ho hb
      have HB := Lib.hid hb
      clear LD ho hb
      go_wp2_with fail
      go_ret
      exact ⟨rfl, HB.out⟩
    | false =>
      go_enter Tryz.func14, Tryz.ntmps14
      go_wp2_with (go_at_call 11; refine LD.out.mono ?_)
      first | rintro e w1 ⟨A, c, rfl, ho, hb⟩ | rintro e w1 A c rfl ho hb
      have HB := Lib.hid hb
      clear LD ho hb
      go_wp2_with fail
      go_ret
      exact ⟨rfl, HB.out⟩
  | some x =>
    have hle : loadE s = 0 := by unfold loadE; rw [if_neg (by rw [hup]; simp), if_neg (by rw [hhas]; simp)]
    have hlb : loadB s = x := by unfold loadB; rw [if_pos hle, hval]; rfl
    rw [hle, hlb] at LD
    cases sm with
    | true =>
      have hv : hasV (some x) d true = (x == d) := by
        unfold hasV
        simp only [if_true]
        rw [Bool.eq_iff_iff]
        simp
      rw [hv]
      clear h1 hup hhas hval hvl hle hlb hY hv
      go_enter Tryz.func14, Tryz.ntmps14
      go_wp2_with (go_at_call 11; refine LD.out.mono ?_)
      first | rintro e w1 ⟨A, c, rfl, ho, hb⟩ | rintro e w1 A c rfl ho hb
      have HB := Lib.hid hb
      have k1 := convB c ho.rb
      have k2 := convB cy (HY.out.below hb)
      clear LD ho hb
      go_wp2_with fail
      go_ret
      exact ⟨rfl, HB.out⟩
    | false =>
      have hv : hasV (some x) d false = false := by simp [hasV]
      rw [hv]
      clear h1 hup hhas hval hvl hle hlb hY hv
      go_enter Tryz.func14, Tryz.ntmps14
      go_wp2_with (go_at_call 11; refine LD.out.mono ?_)
      first | rintro e w1 ⟨A, c, rfl, ho, hb⟩ | rintro e w1 A c rfl ho hb
      have HB := Lib.hid hb
      clear LD ho hb
      go_wp2_with fail
      go_ret
      exact ⟨rfl, HB.out⟩
theorem lawHas (h : Live B S p g b v m D w) (d : List UInt8) (Y : Option Addr) (cy : Nat) (hY : RB w Y d) (sm : Bool) :
    Calls Tryz.prog 14 #[.pointer (some ⟨p, 0, none⟩), .slice Y d.length cy, .bool sm] w fun e w' => e = .returned (.bool (hasV v d sm)) ∧ Below w.heap.size w w' := by
  obtain ⟨s, V, cv, O, co, h1, h2, h3⟩ := h
  have hvl : s.value.length ≤ 100000 := by
    rw [h2.val]
    rcases h2.files with ⟨e, _⟩ | ⟨x, n, e, hx, _⟩
    · rw [e]; simp
    · rw [e]; simp only [Option.getD_some]; omega
  exact lawHasR h1 h2.up h2.has h2.val hvl d Y cy hY sm
end
/-- A new disk, opened. -/
theorem open_new {b : Nm} {D : DSt} (h : Rest D) (hs : D.sure = []) : Opened b D none 0 := open_none h hs 0
theorem base_v : BaseOk [118] := ⟨by decide, by decide⟩
set_option maxRecDepth 20000 in
set_option maxHeartbeats 4000000 in
theorem slotAnswers (w : World) (hE : SEnv w.heap.size w) : Calls Tryz.prog 12 #[] w fun e w' => e = .returned (.bool true) ∧ Below w.heap.size w w' := by
  have HE := Lib.hid hE
  have ND := Lib.hid (diskNew 900 w (by decide) (by decide))
  clear hE
  go_enter Tryz.func12, Tryz.ntmps12
  go_wp2_with (go_at_call 9; refine ND.out.mono ?_)
  first | rintro e w1 ⟨g, rfl, hd, b1⟩ | rintro e w1 g rfl hd b1
  have HB1 := Lib.hid b1
  have OP := Lib.hid (liveOpen (b := [118]) hd (fun x hx => hx.1) b1.size (HE.out.below b1) base_v (open_new (D := dsk0 900) ⟨rfl, rfl, rfl⟩ rfl))
  clear hd b1 ND
  go_wp2_with (go_at_call 10; refine OP.out.mono ?_)
  rintro e w2 ⟨p, S', rfl, hl, hn, hm, hp⟩
  have HL := Lib.hid hl
  have HB2 : Hid (Below w.heap.size w w2) := Lib.hid (Mods.old HB1.out hm HB1.out.size (fun i _ h => h.1))
  have hsz2 : w.heap.size ≤ w2.heap.size := HB2.out.size
  have hal : Below w2.heap.size w2 (w2.alloc (.cells #[.int .u8 7] 5)) := (Below.refl _ _).alloc (Nat.le_refl _) _
  have hO := open_new (b := [118]) (D := dsk0 900) ⟨rfl, rfl, rfl⟩ rfl
  have hused := hl.used
  have SV := Lib.hid (liveSave (hl.below hal) (by simp; omega) (HE.out.below (HB2.out.trans (hal.mono hsz2))) base_v [7] (some ⟨w2.heap.size, 0, none⟩) 1 (RB.one w2 7 rfl) (fun _ y hy => by
    injection hy with hy
    simp only at hy
    subst hy
    exact ⟨fun hs => by have := hl.di.bnd _ hs; omega, fun e => by have := hl.lt; omega⟩) (by decide) (by decide) hO.fuse (by
      rw [hused, hO.room]; decide))
  have HAL := Lib.hid hal
  clear hl hn hm OP hal hO hused hsz2
  go_wp2_with (go_at_call 13; refine SV.out.mono ?_)
  rintro e w3 ⟨S3, D3, rfl, hl3, hn3, hm3, _, _, _⟩
  have hsge := HL.out.sge
  have hge := HL.out.ge
  have HB3 : Hid (Below w.heap.size w w3) := Lib.hid (Mods.old (HB2.out.trans (HAL.out.mono HB2.out.size)) hm3 (Nat.le_trans HB2.out.size HAL.out.size) (fun i _ h => by
    rcases h with h | h
    · exact hsge i h
    · subst h; exact hge))
  obtain ⟨s4, V4, cv4, O4, co4, r1, r2, _⟩ := hl3
  have hle : loadE s4 = 0 := by unfold loadE; rw [if_neg (by rw [r2.up]; simp), if_neg (by rw [r2.has]; simp)]
  have hlb : loadB s4 = [7] := by unfold loadB; rw [if_pos hle, r2.val]; rfl
  have LD := slotLoad r1 (by rw [r2.val]; decide)
  unfold LoadEnd at LD
  rw [hle, hlb] at LD
  have LDH := Lib.hid LD
  clear hn3 hm3 hsge hge r1 r2 hle hlb LD SV
  go_wp2_with (go_at_call 11; refine LDH.out.mono ?_)
  first | rintro e w5 ⟨A, c, rfl, ho, hb⟩ | rintro e w5 A c rfl ho hb
  have HB5 := Lib.hid (HB3.out.trans (hb.mono HB3.out.size))
  have k1 : (convert 29 9 (.slice A 1 c)).run Tryz.prog w5 = .ok (.string ⟨[7].toArray⟩) w5 := convB c ho.rb
  clear LDH ho hb
  go_wp2_with fail
  go_ret
  exact ⟨rfl, HB5.out⟩
end Go.Proofs.YtpfamdcdbjaflaaGreatDoor
