/- Slots as the laws use them, whatever the disk does: a Save, whatever it comes to; a disk that falls; the acts among a law's arguments. -/
import Derived.Test.YtpfamdcdbjaflaaGreatDoorSlotL
import Derived.Test.YtpfamdcdbjaflaaGreatDoorArgsS
namespace Go.Proofs.YtpfamdcdbjaflaaGreatDoor
open Go.RowKit

/-- Bytes that are there lie below the world's size. -/
theorem RB.lt {w : World} {A : Option Addr} {l : List UInt8} (h : RB w A l) (hn : 0 < l.length) : ∀ b, A.map (·.block) = some b → b < w.heap.size := by
  obtain ⟨b, off, rfl, hb, _⟩ := h.at_ hn
  intro k hk
  simp at hk
  omega
theorem Opened.mono {b : Nm} {D : DSt} {v : Option (List UInt8)} {m m' : Nat} (h : Opened b D v m) (hm : m ≤ m') : Opened b D v m' := ⟨h.ok, h.inv, Nat.le_trans h.lst hm, h.cnt, h.nms, h.dn, h.uns, h.fuse, h.room, h.can⟩
theorem inv_fall {b : Nm} (hb : BaseOk b) {s : Sl} {D : DSt} {v : Option (List UInt8)} {m : Nat} (h : Inv b s D v) (hl : s.last ≤ m) (hm : m < 18446744073709551616) (mask : Nat) (torn : Int) : Opened b (fallD D mask torn) v m := by
  have hr := fall_rest D mask torn
  have hs := fall_none h.uns mask torn
  rcases h.files with ⟨e, e1, _⟩ | ⟨x, n, e, hx, hn, e1, _⟩
  · rw [e]; exact open_none hr (by rw [hs, e1]) _
  · rw [e]; exact open_one hb hr hx (Nat.le_trans hn hl) hm (by rw [hs, e1])
section
variable {B p g m : Nat} {S : Nat → Prop} {w w' : World} {b : Nm} {v : Option (List UInt8)} {D : DSt}
theorem Live.inv (h : Live B S p g b v m D w) : ∃ s, Inv b s D v ∧ s.last ≤ m := by
  obtain ⟨s, V, cv, O, co, _, h2, h3⟩ := h
  exact ⟨s, h2, h3⟩
theorem Live.fall (h : Live B S p g b v m D w) (hb : BaseOk b) (hm : m < 18446744073709551616) (mask : Nat) (torn : Int) : Opened b (fallD D mask torn) v m := by
  obtain ⟨s, h2, h3⟩ := h.inv
  exact inv_fall hb h2 h3 hm mask torn
theorem Live.mono (h : Live B S p g b v m D w) {m' : Nat} (hm : m ≤ m') : Live B S p g b v m' D w := by
  obtain ⟨s, V, cv, O, co, h1, h2, h3⟩ := h
  exact ⟨s, V, cv, O, co, h1, h2, by omega⟩
/-- Behind a call of the disk that leaves the files. -/
theorem Live.disk {D' : DSt} (h : Live B S p g b v m D w) (hB : B ≤ w.heap.size) (hd : DI (Sx S w w') w' g D') (k : Mods S w w') (h1 : D'.sure = D.sure) (h2 : D'.unsure = D.unsure) (h3 : D'.down = D.down) : Live B (Sx S w w') p g b v m D' w' := by
  obtain ⟨s, V, cv, O, co, q1, q2, q3⟩ := h
  exact ⟨s, V, cv, O, co, q1.disk hB hd k, ⟨q2.base, q2.up, h3.trans q2.dd, h2.trans q2.uns, q2.has, q2.val, by rw [h1]; exact q2.files⟩, q3⟩
/-- What a Save ends in, whatever the disk does. -/
def SaveEnd (B : Nat) (S : Nat → Prop) (w : World) (p g : Nat) (b : Nm) (v : Option (List UInt8)) (x : List UInt8) (m : Nat) (e : Ending) (w' : World) : Prop :=
  ∃ (S' : Nat → Prop) (D' : DSt) (r : Int), e = .returned (.int .i64 r) ∧ DI S' w' g D' ∧ D'.cnt ≤ 10 ∧ (∀ y, S' y → S y ∨ w.heap.size ≤ y) ∧ Mods (fun y => S y ∨ y = p) w w' ∧
    ((r = 0 ∧ Live B S' p g b (some x) (m + 1) D' w') ∨ (r = 10 ∧ Live B S' p g b v (m + 1) D' w') ∨ (r = 11 ∧ ∀ mask torn, ∃ v', (v' = v ∨ v' = some x) ∧ Opened b (fallD D' mask torn) v' (m + 1)))
theorem liveSaveAny (h : Live B S p g b v m D w) (hB : B ≤ w.heap.size) (hE : SEnv B w) (hb : BaseOk b) (x : List UInt8) (Y : Option Addr) (cy : Nat) (hY : RB w Y x) (hYS : 0 < x.length → ∀ y, Y.map (·.block) = some y → ¬ S y ∧ y ≠ p) (hx : x.length ≤ 65520) (hm : m ≤ 1000000) :
    Calls Tryz.prog 13 #[.pointer (some ⟨p, 0, none⟩), .slice Y x.length cy] w (SaveEnd B S w p g b v x m) := by
  obtain ⟨s, V, cv, O, co, h1, h2, h3⟩ := h
  obtain ⟨q1, q2, q3⟩ := h2.cnt
  have hsp := save_spec hb h2 hx (by omega)
  have hol : s.old.length ≤ 1000 := by
    rcases h2.files with ⟨_, _, e⟩ | ⟨_, _, _, _, _, _, e⟩ <;> rw [e] <;> simp
  refine (slotSave h1 hB hE h2.up x Y cy hY hYS hx (by omega) (by omega) (by rw [q2]; omega) hol).mono ?_
  rintro e w' ⟨rfl, S', V', cv', O', co', r1, r2, r3, _⟩
  refine ⟨S', _, _, rfl, r1.di, ?_, r2, r3, ?_⟩
  · cases hsp with
    | good _ e2 _ => have := e2.cnt.1; omega
    | full _ _ e3 => rw [e3]; omega
    | down _ e2 _ => exact e2
  · cases hsp with
    | good e1 e2 e3 => exact .inl ⟨e1, _, V', cv', O', co', r1, e2, by omega⟩
    | full e1 e2 e3 => exact .inr (.inl ⟨e1, _, V', cv', O', co', r1, by rw [e2, e3]; exact h2, by rw [e2]; omega⟩)
    | down e1 _ e3 =>
      refine .inr (.inr ⟨e1, fun mask torn => ?_⟩)
      obtain ⟨v', hv, ho⟩ := e3 mask torn
      exact ⟨v', hv, ho.mono (by omega)⟩
theorem liveSave_large (h : Live B S p g b v m D w) (A : Option Addr) (l c : Nat) (hl : 65520 < l) (hm : l ≤ 9223372036854775807) : Calls Tryz.prog 13 #[.pointer (some ⟨p, 0, none⟩), .slice A l c] w fun e w' => e = .returned (.int .i64 7) ∧ w = w' := by
  obtain ⟨s, V, cv, O, co, h1, h2, _⟩ := h
  exact slotSave_large h1 h2.up A l c hl hm
/-- The value that a law remembers. -/
def VS (B : Nat) (S : Nat → Prop) (w : World) (s9 s10 : Value) (v : Option (List UInt8)) : Prop :=
  ∃ Y c l, s9 = .slice Y l.length c ∧ s10 = .bool v.isSome ∧ v.getD [] = l ∧ OB w B Y c l ∧ ∀ y, Y.map (·.block) = some y → ¬ S y
theorem VS.mods {T : Nat → Prop} {s9 s10 : Value} (h : VS B S w s9 s10 v) (k : Mods T w w') (hT : ∀ y, y < w.heap.size → T y → S y) : VS B S w' s9 s10 v := by
  obtain ⟨Y, c, l, h1, h2, h3, h4, h5⟩ := h
  exact ⟨Y, c, l, h1, h2, h3, h4.mods k fun y hy ht => h5 y hy (hT y (h4.blk_in y hy).2 ht), h5⟩
theorem VS.set {S' : Nat → Prop} {s9 s10 : Value} (h : VS B S w s9 s10 v) (hS : ∀ y, y < w.heap.size → S' y → S y) : VS B S' w s9 s10 v := by
  obtain ⟨Y, c, l, h1, h2, h3, h4, h5⟩ := h
  exact ⟨Y, c, l, h1, h2, h3, h4, fun y hy ht => h5 y hy (hS y (h4.blk_in y hy).2 ht)⟩
/-- Behind a change of what is not the value's. -/
theorem VS.step {S' : Nat → Prop} {s9 s10 : Value} (h : VS B S w s9 s10 v) (k : Mods S w w') (hn : ∀ y, S' y → S y ∨ w.heap.size ≤ y) : VS B S' w' s9 s10 v := by
  obtain ⟨Y, c, l, h1, h2, h3, h4, h5⟩ := h
  refine ⟨Y, c, l, h1, h2, h3, h4.mods k h5, fun y hy h => ?_⟩
  rcases hn y h with h' | h'
  · exact h5 y hy h'
  · have := (h4.blk_in y hy).2; omega
theorem hasV_self (v : Option (List UInt8)) : hasV v (v.getD []) v.isSome = true := by cases v <;> simp [hasV]
end
/-! ### The acts -/
structure SAc where
  kind : Int
  n : Int
  A : Option Addr
  c : Nat
  data : List UInt8
  mask : Nat
def SAc.cells (a : SAc) : List Value := [.int .i64 a.kind, .int .i64 a.n, .slice a.A a.data.length a.c, .int .u64 (a.mask : Int)]
structure SAc.ok (w : World) (a : SAc) : Prop where
  n : -9223372036854775808 ≤ a.n ∧ a.n ≤ 9223372036854775807
  rb : RB w a.A a.data
  len : a.data.length ≤ 140737488351232
  mask : a.mask < 18446744073709551616
theorem SAc.ok.below {w w' : World} {a : SAc} (h : a.ok w) (hb : Below w.heap.size w w') : a.ok w' := ⟨h.n, h.rb.below hb, h.len, h.mask⟩
def SActs (w : World) (X : Option Addr) (L : List SAc) : Prop := RS w X 4 (L.map SAc.cells) ∧ ∀ a ∈ L, a.ok w
theorem SActs.below {w w' : World} {X : Option Addr} {L : List SAc} (h : SActs w X L) (hb : Below w.heap.size w w') : SActs w' X L := ⟨h.1.below hb, fun a ha => (h.2 a ha).below hb⟩
theorem SActs.row {w : World} {X : Option Addr} {L : List SAc} (h : SActs w X L) {k : Nat} (hk : k < L.length) : ∃ b off, X = some ⟨b, off, none⟩ ∧ b < w.heap.size ∧ w.cell? ⟨b, off + k * 4, none⟩ = some (.int .i64 L[k].kind) ∧
    w.cell? ⟨b, off + k * 4 + 1, none⟩ = some (.int .i64 L[k].n) ∧ w.cell? ⟨b, off + k * 4 + 2, none⟩ = some (.slice L[k].A L[k].data.length L[k].c) ∧ w.cell? ⟨b, off + k * 4 + 3, none⟩ = some (.int .u64 (L[k].mask : Int)) := by
  obtain ⟨b, off, rfl, hb, hc⟩ := h.1.row (i := k) (by simpa using hk)
  exact ⟨b, off, rfl, hb, hc 0 _ (by simp [SAc.cells]), hc 1 _ (by simp [SAc.cells]), hc 2 _ (by simp [SAc.cells]), hc 3 _ (by simp [SAc.cells])⟩
def sactK : List FK := [.int .i64, .int .i64, .bytes, .int .u64]
def sacOf : List Fv → SAc
  | [.int _ k, .int _ n, .bytes A c d, .int _ m] => ⟨k, n, A, c, d, m.toNat⟩
  | _ => ⟨0, 0, none, 0, [], 0⟩
theorem sacOf_ok {w : World} {r : List Fv} (h : rowOk w sactK r) : (sacOf r).cells = r.map Fv.val ∧ (sacOf r).ok w := by
  match r, h with
  | [.int k0 n0, .int k1 n1, .bytes D c d, .int k2 n2], h =>
    obtain ⟨⟨rfl, h0⟩, ⟨rfl, h2⟩, ⟨h3, h4, h5, h6⟩, ⟨rfl, h7⟩, _⟩ := h
    have hu := u64_of_wf h7
    have hi2 := i64_of_wf h2
    refine ⟨?_, ⟨hi2, h3, h6, by simp only [sacOf]; omega⟩⟩
    have e : ((n2.toNat : Nat) : Int) = n2 := by omega
    simp [sacOf, SAc.cells, Fv.val, e]
theorem sacts_of {w : World} {X : Option Addr} {L : List (List Fv)} (hX : RS w X 4 (L.map (·.map Fv.val))) (hR : ∀ r ∈ L, rowOk w sactK r) : ∃ L' : List SAc, L'.length = L.length ∧ SActs w X L' := by
  refine ⟨L.map sacOf, by simp, ?_, fun a ha => ?_⟩
  · have e : (L.map sacOf).map SAc.cells = L.map (·.map Fv.val) := by
      rw [List.map_map]
      exact List.map_congr_left fun r hr => (sacOf_ok (hR r hr)).1
    rw [e]
    exact hX
  · obtain ⟨r, hr, rfl⟩ := List.mem_map.1 ha
    exact (sacOf_ok (hR r hr)).2
theorem sact_size : (Tryz.prog.info? 79).map (·.size) = some 4 := by kernel_rfl
end Go.Proofs.YtpfamdcdbjaflaaGreatDoor
