/- Put together of: SlotH, SlotL, SlotM, SlotT. -/
import Derived.Test.YtobdmlejabjmiaaGreatDoorZa16
import Derived.Test.YtobdmlejabjmiaaGreatDoorZa12
import Derived.Test.YtobdmlejabjmiaaGreatDoorZa03
/- Slots as the laws use them: a live slot; Open, Save, has; answers. -/
namespace Go.Proofs.YtobdmlejabjmiaaGreatDoor
open Go.RowKit

def usedV : Option (List UInt8) → Nat
  | none => 0
  | some x => x.length + 8
/-- A live slot of value v; p is its own, g its disk's. -/
def Live (B : Nat) (S : Nat → Prop) (p g : Nat) (b : Nm) (v : Option (List UInt8)) (m : Nat) (D : DSt) (w : World) : Prop :=
  ∃ s V cv O co, SR B S w p g s D V cv O co ∧ Inv b s D v ∧ s.last ≤ m
section
variable {B p g m : Nat} {S : Nat → Prop} {w w' : World} {b : Nm} {v : Option (List UInt8)} {D : DSt}
theorem Live.below (h : Live B S p g b v m D w) (hb : Below w.heap.size w w') : Live B S p g b v m D w' := by
  obtain ⟨s, V, cv, O, co, h1, h2, h3⟩ := h
  exact ⟨s, V, cv, O, co, h1.below hb, h2, h3⟩
theorem Live.di (h : Live B S p g b v m D w) : DI S w g D := by obtain ⟨s, V, cv, O, co, h1, _⟩ := h; exact h1.di
theorem Live.sge (h : Live B S p g b v m D w) : ∀ x, S x → B ≤ x := by obtain ⟨s, V, cv, O, co, h1, _⟩ := h; exact h1.sge
theorem Live.ge (h : Live B S p g b v m D w) : B ≤ p := by obtain ⟨s, V, cv, O, co, h1, _⟩ := h; exact h1.ge
theorem Live.lt (h : Live B S p g b v m D w) : p < w.heap.size := by obtain ⟨s, V, cv, O, co, h1, _⟩ := h; exact h1.blk.lt
theorem Live.files (h : Live B S p g b v m D w) : D.files.length ≤ 1 ∧ D.cnt ≤ 1 := by
  obtain ⟨s, V, cv, O, co, h1, h2, _⟩ := h
  obtain ⟨q1, q2, q3⟩ := h2.cnt
  exact ⟨by rw [q2]; exact q3, q1⟩
/-- What Open ends in, of a disk that can be opened. -/
def LiveOpen (B : Nat) (S : Nat → Prop) (w : World) (g : Nat) (b : Nm) (v : Option (List UInt8)) (m : Nat) (D' : DSt) (e : Ending) (w' : World) : Prop :=
  ∃ (p : Nat) (S' : Nat → Prop), e = .returned (.tuple #[.pointer (some ⟨p, 0, none⟩), .int .i64 0]) ∧ Live B S' p g b v m D' w' ∧ (∀ x, S' x → S x ∨ w.heap.size ≤ x) ∧ Mods S w w' ∧ w.heap.size ≤ p
/-- What a Save ends in that nothing hinders. -/
def LiveSaved (B : Nat) (S : Nat → Prop) (w : World) (p g : Nat) (b : Nm) (x : List UInt8) (m : Nat) (D : DSt) (e : Ending) (w' : World) : Prop :=
  ∃ (S' : Nat → Prop) (D' : DSt), e = .returned (.int .i64 0) ∧ Live B S' p g b (some x) (m + 1) D' w' ∧ (∀ y, S' y → S y ∨ w.heap.size ≤ y) ∧ Mods (fun y => S y ∨ y = p) w w' ∧ D'.fuse = 0 ∧ D'.room = D.room ∧ ∃ n, n < 18446744073709551616 ∧ D'.files = [(fileN b n, frameB x)]
/-- What a slot answers to 'has'. -/
def hasV (v : Option (List UInt8)) (d : List UInt8) (sm : Bool) : Bool := if sm then decide (v = some d) else decide (v = none)
end
end Go.Proofs.YtobdmlejabjmiaaGreatDoor


/- Slots as the laws use them, and what the listed variables hold. -/


/- Slots as the laws use them, whatever the disk does: a Save, whatever it comes to; a disk that falls; the acts among a law's arguments. -/
namespace Go.Proofs.YtobdmlejabjmiaaGreatDoor
open Go.RowKit

/-- Bytes that are there lie below the world's size. -/
theorem RB.lt {w : World} {A : Option Addr} {l : List UInt8} (h : RB w A l) (hn : 0 < l.length) : ∀ b, A.map (·.block) = some b → b < w.heap.size := by
  obtain ⟨b, off, rfl, hb, _⟩ := h.at_ hn
  intro k hk
  simp at hk
  omega
theorem Opened.mono {b : Nm} {D : DSt} {v : Option (List UInt8)} {m m' : Nat} (h : Opened b D v m) (hm : m ≤ m') : Opened b D v m' := ⟨h.ok, h.inv, Nat.le_trans h.lst hm, h.cnt, h.nms, h.dn, h.uns, h.fuse, h.room, h.can⟩
section
variable {B p g m : Nat} {S : Nat → Prop} {w w' : World} {b : Nm} {v : Option (List UInt8)} {D : DSt}
theorem Live.inv (h : Live B S p g b v m D w) : ∃ s, Inv b s D v ∧ s.last ≤ m := by
  obtain ⟨s, V, cv, O, co, _, h2, h3⟩ := h
  exact ⟨s, h2, h3⟩
theorem Live.mono (h : Live B S p g b v m D w) {m' : Nat} (hm : m ≤ m') : Live B S p g b v m' D w := by
  obtain ⟨s, V, cv, O, co, h1, h2, h3⟩ := h
  exact ⟨s, V, cv, O, co, h1, h2, by omega⟩
/-- Behind a call of the disk that leaves the files. -/
theorem Live.disk {D' : DSt} (h : Live B S p g b v m D w) (hB : B ≤ w.heap.size) (hd : DI (Sx S w w') w' g D') (k : Mods S w w') (h1 : D'.sure = D.sure) (h2 : D'.unsure = D.unsure) (h3 : D'.down = D.down) : Live B (Sx S w w') p g b v m D' w' := by
  obtain ⟨s, V, cv, O, co, q1, q2, q3⟩ := h
  exact ⟨s, V, cv, O, co, q1.disk hB hd k, ⟨q2.base, q2.up, h3.trans q2.dd, h2.trans q2.uns, q2.has, q2.val, by rw [h1]; exact q2.files⟩, q3⟩
/-- What a Save ends in, whatever the disk does. -/
def SaveEnd (B : Nat) (S : Nat → Prop) (w : World) (p g : Nat) (b : Nm) (v : Option (List UInt8)) (x : List UInt8) (m : Nat) (e : Ending) (w' : World) : Prop :=
  ∃ (S' : Nat → Prop) (D' : DSt) (r : Int), e = .returned (.int .i64 r) ∧ DI S' w' g D' ∧ D'.cnt ≤ 10 ∧ (∀ y, S' y → S y ∨ w.heap.size ≤ y) ∧ Mods (fun y => S y ∨ y = p) w w' ∧
    ((r = 0 ∧ Live B S' p g b (some x) (m + 1) D' w') ∨ (r = 10 ∧ Live B S' p g b v (m + 1) D' w') ∨ (r = 11 ∧ ∀ mask torn, ∃ v', (v' = v ∨ v' = some x) ∧ Opened b (fallD D' mask torn) v' (m + 1)))
/-- The value that a law remembers. -/
def VS (B : Nat) (S : Nat → Prop) (w : World) (s9 s10 : Value) (v : Option (List UInt8)) : Prop :=
  ∃ Y c l, s9 = .slice Y l.length c ∧ s10 = .bool v.isSome ∧ v.getD [] = l ∧ OB w B Y c l ∧ ∀ y, Y.map (·.block) = some y → ¬ S y
theorem VS.mods {T : Nat → Prop} {s9 s10 : Value} (h : VS B S w s9 s10 v) (k : Mods T w w') (hT : ∀ y, y < w.heap.size → T y → S y) : VS B S w' s9 s10 v := by
  obtain ⟨Y, c, l, h1, h2, h3, h4, h5⟩ := h
  exact ⟨Y, c, l, h1, h2, h3, h4.mods k fun y hy ht => h5 y hy (hT y (h4.blk_in y hy).2 ht), h5⟩
theorem VS.set {S' : Nat → Prop} {s9 s10 : Value} (h : VS B S w s9 s10 v) (hS : ∀ y, y < w.heap.size → S' y → S y) : VS B S' w s9 s10 v := by
  obtain ⟨Y, c, l, h1, h2, h3, h4, h5⟩ := h
  exact ⟨Y, c, l, h1, h2, h3, h4, fun y hy ht => h5 y hy (hS y (h4.blk_in y hy).2 ht)⟩
/-- Behind a change of what is not the value's. -/
theorem VS.step {S' : Nat → Prop} {s9 s10 : Value} (h : VS B S w s9 s10 v) (k : Mods S w w') (hn : ∀ y, S' y → S y ∨ w.heap.size ≤ y) : VS B S' w' s9 s10 v := by
  obtain ⟨Y, c, l, h1, h2, h3, h4, h5⟩ := h
  refine ⟨Y, c, l, h1, h2, h3, h4.mods k h5, fun y hy h => ?_⟩
  rcases hn y h with h' | h'
  · exact h5 y hy h'
  · have := (h4.blk_in y hy).2; omega
end
/-! ### The acts -/
structure SAc where
  kind : Int
  n : Int
  A : Option Addr
  c : Nat
  data : List UInt8
  mask : Nat
def SAc.cells (a : SAc) : List Value := [.int .i64 a.kind, .int .i64 a.n, .slice a.A a.data.length a.c, .int .u64 (a.mask : Int)]
structure SAc.ok (w : World) (a : SAc) : Prop where
  n : -9223372036854775808 ≤ a.n ∧ a.n ≤ 9223372036854775807
  rb : RB w a.A a.data
  len : a.data.length ≤ 140737488351232
  mask : a.mask < 18446744073709551616
theorem SAc.ok.below {w w' : World} {a : SAc} (h : a.ok w) (hb : Below w.heap.size w w') : a.ok w' := ⟨h.n, h.rb.below hb, h.len, h.mask⟩
def SActs (w : World) (X : Option Addr) (L : List SAc) : Prop := RS w X 4 (L.map SAc.cells) ∧ ∀ a ∈ L, a.ok w
theorem SActs.below {w w' : World} {X : Option Addr} {L : List SAc} (h : SActs w X L) (hb : Below w.heap.size w w') : SActs w' X L := ⟨h.1.below hb, fun a ha => (h.2 a ha).below hb⟩
theorem SActs.row {w : World} {X : Option Addr} {L : List SAc} (h : SActs w X L) {k : Nat} (hk : k < L.length) : ∃ b off, X = some ⟨b, off, none⟩ ∧ b < w.heap.size ∧ w.cell? ⟨b, off + k * 4, none⟩ = some (.int .i64 L[k].kind) ∧
    w.cell? ⟨b, off + k * 4 + 1, none⟩ = some (.int .i64 L[k].n) ∧ w.cell? ⟨b, off + k * 4 + 2, none⟩ = some (.slice L[k].A L[k].data.length L[k].c) ∧ w.cell? ⟨b, off + k * 4 + 3, none⟩ = some (.int .u64 (L[k].mask : Int)) := by
  obtain ⟨b, off, rfl, hb, hc⟩ := h.1.row (i := k) (by simpa using hk)
  exact ⟨b, off, rfl, hb, hc 0 _ (by simp [SAc.cells]), hc 1 _ (by simp [SAc.cells]), hc 2 _ (by simp [SAc.cells]), hc 3 _ (by simp [SAc.cells])⟩
def sactK : List FK := [.int .i64, .int .i64, .bytes, .int .u64]
def sacOf : List Fv → SAc
  | [.int _ k, .int _ n, .bytes A c d, .int _ m] => ⟨k, n, A, c, d, m.toNat⟩
  | _ => ⟨0, 0, none, 0, [], 0⟩
end Go.Proofs.YtobdmlejabjmiaaGreatDoor


/- Slots of one disk side by side: plain facts of Open and Save among other files; a slot that another one's calls leave. -/
namespace Go.Proofs.YtobdmlejabjmiaaGreatDoor
open Go.RowKit

theorem scan_none {b : Nm} {F : FS} : ∀ (l : List Nm) (s : Sc), (∀ f ∈ l, numN b f = none) → l.foldl (scan1 b F) s = s := by
  intro l
  induction l with
  | nil => intro s _; rfl
  | cons f l ih =>
    intro s h
    rw [List.foldl_cons, scan_skip (h f (List.mem_cons_self ..))]
    exact ih s fun g hg => h g (List.mem_cons_of_mem _ hg)
theorem open_others {b : Nm} {D : DSt} (h : Rest D) (hn : ∀ p ∈ D.sure, numN b p.1 = none) : scanD b D = Sc.zero ∧ openD b D = (0, D) := by
  have hs : scanD b D = Sc.zero := by
    rw [h.scan]
    exact scan_none _ _ fun f hf => by
      obtain ⟨p, hp, rfl⟩ := List.mem_map.1 hf
      exact hn p hp
  refine ⟨hs, ?_⟩
  unfold openD
  rw [hs]
  exact clean_none D
/-- A first Save that nothing hinders. -/
theorem save_first {b : Nm} (hb : BaseOk b) {s : Sl} {D : DSt} (hbase : s.base = b) (hup : s.down = false) (hold : s.old = []) (hl : s.last = 0) (h : Rest D) {x : List UInt8} (hx : x.length ≤ 65520) (hfn : fget D.sure (fileN b 1) = none) (hlen : D.sure.length < 4096) (hr : (fsize D.sure : Int) + x.length + 8 ≤ D.room) :
    saveS s D x = (0, ⟨b, 1, x, true, [fileN b 1], false⟩, { D with sure := fset D.sure (fileN b 1) (frameB x), unsure := [] }) := by
  have hn := nameOk_file hb (n := 1) (by decide)
  have hfs := h.files
  have hf := h.fu
  obtain ⟨f, hff⟩ : ∃ f, f = fileN b 1 := ⟨_, rfl⟩
  rw [← hff] at hn hfn
  have hre : refuseD D ⟨1, f, 0, frameB x⟩ 0 = 0 := by
    unfold refuseD
    have hfl := frame_len x
    rw [if_neg (by rw [h.dd]; simp), if_neg (by rw [hn]; simp), if_neg (by rw [hfs]; omega), if_neg]
    rintro ⟨h1, h2⟩
    have e0 : ((fget D.files f).getD []).length = 0 := by rw [hfs, hfn]; rfl
    simp only [e0, afterN, if_true] at h2
    rw [hfl, hfs] at h2
    have : max 0 (0 + (x.length + 8)) = x.length + 8 := by omega
    rw [this] at h2
    omega
  have e1 : putS D f x = (0, { D with unsure := [⟨1, f, 0, frameB x⟩] }) := by
    unfold putS changeD
    rw [if_neg (by rw [hre]; simp), burn_idle hf, if_neg (by rw [h.dd]; simp), h.un]; rfl
  have e2 : syncD { D with unsure := [⟨1, f, 0, frameB x⟩] } = (0, { D with sure := fset D.sure f (frameB x), unsure := [] }) := by
    rw [sync_idle (D := { D with unsure := [⟨1, f, 0, frameB x⟩] }) h.dd hf]
    simp only [DSt.files, List.foldl_cons, List.foldl_nil, doF, if_true, hfn, Option.getD_none, putD_new]
  unfold saveS
  rw [if_neg (by rw [hup]; simp), if_neg (by omega), hbase, hl, Nat.zero_add, ← hff, e1]
  simp only
  rw [if_neg (by simp), e2]
  simp only
  rw [if_neg (by simp), hold, clean_none]
  simp
section
variable {B p p' g cv co cv' co' : Nat} {S S' T : Nat → Prop} {w w' : World} {s s' : Sl} {D D' : DSt} {V O V' O' : Option Addr}
/-- A slot that another one's call leaves. -/
theorem SR.other (h : SR B S w p g s D V cv O co) (hB : B ≤ w.heap.size) (h' : SR B S' w' p' g s' D' V' cv' O' co') (hn : ∀ b, S' b → S b ∨ w.heap.size ≤ b) (m : Mods T w w') (hp : ¬ T p) (hv : ∀ b, V.map (·.block) = some b → ¬ T b) (ho : ∀ b, O.map (·.block) = some b → ¬ T b) : SR B S' w' p g s D' V cv O co :=
  ⟨h.blk.mods m hp, h'.di, h.val.mods m hv, h.old.mods m ho, h.ge, h'.sge, fun hb => by
    rcases hn _ hb with hb | hb
    · exact h.ps hb
    · have := h.blk.lt; omega, fun b hb hs => by
    rcases hn _ hs with hs | hs
    · exact h.vs b hb hs
    · have := (h.val.blk_in b hb).2; omega, fun b hb hs => by
    rcases hn _ hs with hs | hs
    · exact h.os b hb hs
    · have := (h.old.blk_lt b hb).2; omega, h.bl, h.on⟩
end
/-- Open on a disk at rest where it changes nothing. -/
theorem srOpen {B g : Nat} {S : Nat → Prop} {w : World} {D : DSt} {b : Nm} (h : DI S w g D) (hsge : ∀ x, S x → B ≤ x) (hB : B ≤ w.heap.size) (hE : SEnv B w) (hb : BaseOk b) (hr : Rest D) (hcnt : D.sure.length ≤ 1000) (hnm : ∀ p ∈ D.sure, nameOk p.1 = true) (hcan : ∀ p ∈ D.sure, numN b p.1 = none ∨ ∃ k, k < 18446744073709551616 ∧ p.1 = fileN b k) {sc : Sc} (hs : scanD b D = sc ∧ openD b D = (0, D)) :
    Calls Tryz.prog 26 #[.pointer (some ⟨g, 0, none⟩), .string ⟨b.toArray⟩] w (OpenEnd B S w g (openS b sc) D) := by
  have hc : D.cnt ≤ 1000 := by unfold DSt.cnt; rw [hr.un]; simpa using hcnt
  have h1 := slotOpen h hsge hB hE hb hr.dd hc (by rw [hr.files]; exact hnm) (fun f hf n hn => by
    rw [hr.names] at hf
    obtain ⟨p, hp, rfl⟩ := List.mem_map.1 hf
    rcases hcan p hp with h1 | ⟨k, hk, h1⟩
    · rw [h1] at hn; cases hn
    · rw [h1, numN_file b hk] at hn
      injection hn with hn
      subst hn
      exact ⟨h1, hk⟩) (by rw [hs.2])
  rw [hs.1, hs.2] at h1
  exact h1
/-- The first Save of a slot that has none. -/
theorem srSave1 {B p g cv co : Nat} {S : Nat → Prop} {w : World} {D : DSt} {b : Nm} {V O : Option Addr} (h : SR B S w p g (openS b Sc.zero) D V cv O co) (hB : B ≤ w.heap.size) (hE : SEnv B w) (hb : BaseOk b) (hr : Rest D) (x : List UInt8) (Y : Option Addr) (cy : Nat) (hY : RB w Y x) (hYS : 0 < x.length → ∀ b, Y.map (·.block) = some b → ¬ S b ∧ b ≠ p) (hx : x.length ≤ 65520) (hfn : fget D.sure (fileN b 1) = none) (hlen : D.sure.length ≤ 500) (hroom : (fsize D.sure : Int) + x.length + 8 ≤ D.room) :
    Calls Tryz.prog 38 #[.pointer (some ⟨p, 0, none⟩), .slice Y x.length cy] w (SDone B S w V p g (.int .i64 0) ⟨b, 1, x, true, [fileN b 1], false⟩ { D with sure := fset D.sure (fileN b 1) (frameB x), unsure := [] }) := by
  have e := save_first hb (s := openS b Sc.zero) rfl rfl rfl rfl hr hx hfn (by omega) hroom
  have hc : D.cnt ≤ 1000 := by unfold DSt.cnt; rw [hr.un]; simp; omega
  have h1 := slotSave h hB hE rfl x Y cy hY hYS hx (by show 0 + 1 < _; omega) hc (by rw [hr.files]; omega) (by show ([] : List Nm).length ≤ 1000; simp)
  rw [e] at h1
  exact h1
end Go.Proofs.YtobdmlejabjmiaaGreatDoor

