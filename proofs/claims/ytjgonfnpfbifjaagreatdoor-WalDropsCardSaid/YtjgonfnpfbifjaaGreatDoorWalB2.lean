/- WalB2: put together by merge.py of: WalI, WalR, WalT, WWalB. -/
import Derived.Test.YtjgonfnpfbifjaaGreatDoorWalH2
import Derived.Test.YtjgonfnpfbifjaaGreatDoorWalS
import Derived.Test.YtjgonfnpfbifjaaGreatDoorWalF
import Derived.Test.YtjgonfnpfbifjaaGreatDoorWalO
import Derived.Test.YtjgonfnpfbifjaaGreatDoorWWalN
import Derived.Deep.CutBlock
import Derived.Deep.DeepCutAuto
import Derived.OwnWalk
/- Package wal's load on one file that fits and is whole. -/
namespace Go.Proofs.YtjgonfnpfbifjaaGreatDoor
open Go.RowKit

abbrev TF : TypeId := 63
def fdRow (f : Fd) : List Value := [.string ⟨f.name.toArray⟩, .int .u64 (f.era : Int), .int .u64 (f.first : Int)]
theorem found_size : (Tryz.prog.info? TF).map (·.size) = some 3 := by kernel_rfl
section
variable {B p g sc rc : Nat} {S F : Nat → Prop} {w w' : World} {l : Lg} {D : DSt} {Z : List (Sg × Pl)} {Y : List (List UInt8 × Option Addr × Nat)} {SA RA : Option Addr} {s : Sg} {z : Pl}
/-- Where load's scan of a file stands: j of its records are taken in. -/
structure ScanAt (B : Nat) (S F : Nat → Prop) (w : World) (p g : Nat) (l : Lg) (D : DSt) (f : Fd) (b : List UInt8) (DA : Option Addr) (dc : Nat) (q j m : Nat) (MB MC : Nat) (wr : World) : Prop where
  lx : ∃ F' Y' SA' sc' RA' rc', LX B S F' wr p g { l with first := f.first, segs := [⟨f.name, f.first, 0 :: (scanF b f.first).2.take j⟩], recs := (scanF b f.first).1.take j } D [(⟨f.name, f.first, 0 :: (scanF b f.first).2.take j⟩, ⟨q, MB, MC⟩)] Y' SA' sc' RA' rc' ∧ ∀ x, F' x → F x ∨ w.heap.size ≤ x
  data : OB wr w.heap.size DA dc b
  stop : (0 :: (scanF b f.first).2.take j).getLastD 0 = m
  rest : ∃ k, scanR b k m (f.first + j) = ((scanF b f.first).1.drop j, (scanF b f.first).2.drop j) ∧ b.length ≤ m + k
  low : 8 * j ≤ m ∧ m ≤ b.length
  jl : j ≤ (scanF b f.first).1.length ∧ j ≤ (scanF b f.first).2.length
  mods : Mods (fun x => S x ∨ F x) w wr
/-- What load ends its scan with. -/
theorem ScanAt.done {f : Fd} {b : List UInt8} {DA : Option Addr} {dc q j m MB MC : Nat} {wr : World} (h : ScanAt B S F w p g l D f b DA dc q j m MB MC wr) (hd : (scanF b f.first).1.drop j = [] ∧ (scanF b f.first).2.drop j = []) :
    (∃ F' Y' SA' sc' RA' rc', LX B S F' wr p g { l with first := f.first, segs := [⟨f.name, f.first, 0 :: (scanF b f.first).2⟩], recs := (scanF b f.first).1 } D [(⟨f.name, f.first, 0 :: (scanF b f.first).2⟩, ⟨q, MB, MC⟩)] Y' SA' sc' RA' rc' ∧ ∀ x, F' x → F x ∨ w.heap.size ≤ x) ∧ (0 :: (scanF b f.first).2).getLastD 0 = m := by
  have e1 : (scanF b f.first).1.take j = (scanF b f.first).1 := by have := List.take_append_drop j (scanF b f.first).1; rw [hd.1, List.append_nil] at this; exact this
  have e2 : (scanF b f.first).2.take j = (scanF b f.first).2 := by have := List.take_append_drop j (scanF b f.first).2; rw [hd.2, List.append_nil] at this; exact this
  have hx := h.lx
  have hs := h.stop
  rw [e1, e2] at hx
  rw [e2] at hs
  exact ⟨hx, hs⟩
/-- A record that was read is put behind the others. -/
theorem LX.addRead {g8 c8 n n0 c' : Nat} {w8 : World} {A' : Option Addr} {r : List UInt8} (h : LX B S F w p g l D Z Y SA sc RA rc) (hrb : RB w A' r) (hrk : 0 < r.length → ∀ b, A'.map (·.block) = some b → n0 ≤ b ∧ ∃ cs, Blk w b 5 cs) (hB : B ≤ n0) (hn0 : n0 ≤ w.heap.size) (hS0 : ∀ b, S b → b < n0)
    (hg : w.grownBy w8 (RA.map (·.block))) (ho : OV w8 B TB (some ⟨g8, 0, none⟩) c8 (Y.map recV ++ [recV (r, A', c')])) (hat : RA.map (·.block) = some g8 ∨ g8 = w.heap.size) (hn : n = l.recs.length + 1) :
    LX B S (fun b => F b ∨ (n0 ≤ b ∧ b < w8.heap.size)) (w8.setCell ⟨p, 3, none⟩ (.slice (some ⟨g8, 0, none⟩) n c8)) p g { l with recs := l.recs ++ [r] } D Z (Y ++ [(r, A', c')]) SA sc (some ⟨g8, 0, none⟩) c8 := by
  have hw8 : w.heap.size ≤ w8.heap.size := hg.size
  have hg8 := ho.blk_lt g8 rfl
  have m8 : Mods (fun k => RA.map (·.block) = some k) w w8 := Mods.of_grown hg (fun k e => e)
  have hne : 0 < r.length → ∀ k, A'.map (·.block) = some k → ¬ RA.map (·.block) = some k := fun h0 k hk e => by
    obtain ⟨_, cs, hb⟩ := hrk h0 k hk
    exact h.lb.rv.ne_blk hb (by decide) e
  refine h.addRec (y := (r, A', c')) (hrb.mods m8 hne) hg ho hn (fun b hb => .inl hb) (fun b hb => ?_) (fun b hb => ?_) ?_ (fun h0 b hb => ?_)
  · rcases hb with hb | hb
    · exact h.lb.dis b hb
    · intro hs; have := hS0 b hs; omega
  · rcases hb with hb | hb
    · have := h.lb.bnd b hb; exact ⟨this.1, by omega⟩
    · exact ⟨by omega, hb.2⟩
  · rcases hat with e | e
    · exact .inl (h.lb.fr _ e)
    · exact .inr ⟨by omega, hg8.2⟩
  · obtain ⟨h1, cs, hb'⟩ := hrk h0 b hb
    have hlt := hb'.lt
    exact ⟨.inr ⟨h1, by omega⟩, cs, hb'.mods m8 (hne h0 b hb)⟩
/-- A mark more on the last segment, in the log too. -/
theorem LX.addMark {g8 c8 n v : Nat} {w8 : World} {Z1 : List (Sg × Pl)} (h : LX B S F w p g l D (Z1 ++ [(s, z)]) Y SA sc RA rc) (hl : l.segs = Z1.map Prod.fst ++ [s])
    (hg : w.grownBy w8 (some z.m)) (hk : OV w8 B 3 (some ⟨g8, 0, none⟩) c8 (s.marks.map encMark ++ [encMark v])) (ho : OV w8 B 3 (some ⟨z.m, 0, none⟩) z.c (s.marks.map encMark)) (hat : some z.m = some g8 ∨ g8 = w.heap.size) (hn : n = s.marks.length + 1) (hB : B ≤ w.heap.size) :
    LX B S (fun b => F b ∨ b = g8) (w8.setCell ⟨z.q, 2, none⟩ (.slice (some ⟨g8, 0, none⟩) n c8)) p g { l with segs := Z1.map Prod.fst ++ [{ s with marks := s.marks ++ [v] }] } D (Z1 ++ [({ s with marks := s.marks ++ [v] }, ⟨z.q, g8, c8⟩)]) Y SA sc RA rc := by
  have hz := h.lb.sg (s, z) (by simp)
  have hfz := h.lb.fq (s, z) (by simp)
  obtain ⟨cs, hmb⟩ := hz.mblk
  have m8 : Mods (· = z.m) w w8 := Mods.of_grown hg (fun k e => by injection e with e; exact e.symm)
  have hsz : w.heap.size ≤ w8.heap.size := hg.size
  have hg8 := hk.blk_lt g8 rfl
  have hmn := h.lb.mn
  rw [List.map_append, List.nodup_append] at hmn
  have hne : ∀ y ∈ Z1, y.2.m ≠ z.m := fun y hy => hmn.2.2 _ (List.mem_map.2 ⟨y, hy, rfl⟩) _ (by simp)
  have h8 : LX B S F w8 p g l D (Z1 ++ [(s, z)]) Y SA sc RA rc := by
    refine ⟨h.blk.mods m8 (h.blk.ne hmb (by decide)), h.fp, h.zs, h.ys, h.lb.keepMarks hmb (h.lb.dis _ hfz.2) m8 fun z' hz' e => ?_⟩
    rcases List.mem_append.1 hz' with hz' | hz'
    · exact absurd e (hne z' hz')
    · rw [List.mem_singleton.1 hz']; exact ho
  have h9 : LX B S (fun b => F b ∨ b = g8) w8 p g l D (Z1 ++ [(s, z)]) Y SA sc RA rc := by
    refine ⟨h8.blk, .inl h8.fp, h8.zs, h8.ys, h8.lb.wide (fun b hb => .inl hb) (fun b hb => ?_) (fun b hb => ?_)⟩
    · rcases hb with hb | rfl
      · exact h8.lb.dis b hb
      · rcases hat with e | e
        · injection e with e; rw [← e]; exact h.lb.dis _ hfz.2
        · intro hs; have := h.lb.di.bnd _ hs; omega
    · rcases hb with hb | rfl
      · exact h8.lb.bnd b hb
      · exact hg8
  subst hn
  have := h9.setMarks (s' := { s with marks := s.marks ++ [v] }) (mb := g8) (mc := c8) hl ⟨rfl, rfl⟩ (by simp) (by simpa using hk) (.inr rfl) (fun y hy e => by
    rcases hat with e2 | e2
    · injection e2 with e2; exact hne y hy (by rw [e, e2])
    · have := (h.lb.sg y (List.mem_append_left _ hy)).lt.2; omega)
  simpa using this
/-- A log, and a file's bytes, while load scans them. -/
structure ScanO (B : Nat) (S F F' : Nat → Prop) (w : World) (p g : Nat) (l : Lg) (D : DSt) (Z : List (Sg × Pl)) (Y : List (List UInt8 × Option Addr × Nat)) (SA : Option Addr) (sc : Nat) (RA : Option Addr) (rc : Nat) (b : List UInt8) (DA : Option Addr) (dc : Nat) (wr : World) : Prop where
  lx : LX B S F' wr p g l D Z Y SA sc RA rc
  data : OB wr w.heap.size DA dc b
  mods : Mods (fun x => S x ∨ F x) w wr
  ff : ∀ x, F' x → F x ∨ w.heap.size ≤ x
section
variable {b : List UInt8} {DA : Option Addr} {dc : Nat} {wr wa : World} {F' : Nat → Prop}
theorem ScanO.below (h : ScanO B S F F' w p g l D Z Y SA sc RA rc b DA dc wr) (hb : Below wr.heap.size wr wa) : ScanO B S F F' w p g l D Z Y SA sc RA rc b DA dc wa :=
  ⟨h.lx.below hb, h.data.below hb, h.mods.below hb, h.ff⟩
theorem ScanO.addRead {g8 c8 n n0 c' : Nat} {w8 : World} {A' : Option Addr} {r : List UInt8} (h : ScanO B S F F' w p g l D Z Y SA sc RA rc b DA dc wr) (hrb : RB wr A' r) (hrk : 0 < r.length → ∀ b, A'.map (·.block) = some b → n0 ≤ b ∧ ∃ cs, Blk wr b 5 cs) (hB : B ≤ w.heap.size) (hn1 : w.heap.size ≤ n0) (hn0 : n0 ≤ wr.heap.size) (hS0 : ∀ b, S b → b < n0)
    (hg : wr.grownBy w8 (RA.map (·.block))) (ho : OV w8 B TB (some ⟨g8, 0, none⟩) c8 (Y.map recV ++ [recV (r, A', c')])) (hat : RA.map (·.block) = some g8 ∨ g8 = wr.heap.size) (hn : n = l.recs.length + 1) :
    ScanO B S F (fun b => F' b ∨ (n0 ≤ b ∧ b < w8.heap.size)) w p g { l with recs := l.recs ++ [r] } D Z (Y ++ [(r, A', c')]) SA sc (some ⟨g8, 0, none⟩) c8 b DA dc (w8.setCell ⟨p, 3, none⟩ (.slice (some ⟨g8, 0, none⟩) n c8)) := by
  have m8 : Mods (fun k => RA.map (·.block) = some k) wr w8 := Mods.of_grown hg (fun k e => e)
  have hp8 := h.lx.blk.mods m8 (h.lx.lb.rv.ne_blk h.lx.blk (by decide))
  have mp : Mods (· = p) w8 (w8.setCell ⟨p, 3, none⟩ (.slice (some ⟨g8, 0, none⟩) n c8)) := (Mods.refl (· = p) w8).setCell ⟨p, _, none⟩ (.inl rfl) _
  have d8 : OB w8 w.heap.size DA dc b := h.data.mods m8 (fun k hk e => by
    obtain ⟨cs, hb⟩ := h.data.blk k hk
    exact h.lx.lb.rv.ne_blk hb (by decide) e)
  refine ⟨h.lx.addRead hrb hrk (Nat.le_trans hB hn1) hn0 hS0 hg ho hat hn, d8.mods mp (fun k hk e => d8.ne_blk hp8 (by decide) (by rw [hk, e])), ?_, fun x hx => hx.elim (h.ff x) (fun hx => .inr (by omega))⟩
  refine (h.mods.trans m8 (fun i hi => ?_)).trans mp (fun i hi => ?_)
  · rcases h.ff i (h.lx.lb.fr i hi) with h1 | h1
    · exact .inl (.inr h1)
    · exact .inr h1
  · rcases h.ff p h.lx.fp with h1 | h1
    · exact .inl (.inr (by rw [hi]; exact h1))
    · exact .inr (by rw [hi]; exact h1)
theorem ScanO.addMark {g8 c8 n v : Nat} {w8 : World} {Z1 : List (Sg × Pl)} (h : ScanO B S F F' w p g l D (Z1 ++ [(s, z)]) Y SA sc RA rc b DA dc wr) (hl : l.segs = Z1.map Prod.fst ++ [s])
    (hg : wr.grownBy w8 (some z.m)) (hk : OV w8 B 3 (some ⟨g8, 0, none⟩) c8 (s.marks.map encMark ++ [encMark v])) (ho : OV w8 B 3 (some ⟨z.m, 0, none⟩) z.c (s.marks.map encMark)) (hat : some z.m = some g8 ∨ g8 = wr.heap.size) (hn : n = s.marks.length + 1) (hB : B ≤ w.heap.size) :
    ScanO B S F (fun b => F' b ∨ b = g8) w p g { l with segs := Z1.map Prod.fst ++ [{ s with marks := s.marks ++ [v] }] } D (Z1 ++ [({ s with marks := s.marks ++ [v] }, ⟨z.q, g8, c8⟩)]) Y SA sc RA rc b DA dc (w8.setCell ⟨z.q, 2, none⟩ (.slice (some ⟨g8, 0, none⟩) n c8)) := by
  have hz := h.lx.lb.sg (s, z) (by simp)
  have hfz := h.lx.lb.fq (s, z) (by simp)
  obtain ⟨cs, hmb⟩ := hz.mblk
  have m8 : Mods (· = z.m) wr w8 := Mods.of_grown hg (fun k e => by injection e with e; exact e.symm)
  have hq8 := hz.blk.mods m8 (hz.blk.ne hmb (by decide))
  have mq : Mods (· = z.q) w8 (w8.setCell ⟨z.q, 2, none⟩ (.slice (some ⟨g8, 0, none⟩) n c8)) := (Mods.refl (· = z.q) w8).setCell ⟨z.q, _, none⟩ (.inl rfl) _
  have d8 : OB w8 w.heap.size DA dc b := h.data.mods m8 (fun k hk e => h.data.ne_blk hmb (by decide) (by rw [hk, e]))
  have hs : w.heap.size ≤ wr.heap.size := h.mods.size
  refine ⟨h.lx.addMark hl hg hk ho hat hn (Nat.le_trans hB hs), d8.mods mq (fun k hk e => d8.ne_blk hq8 (by decide) (by rw [hk, e])), ?_, fun x hx => hx.elim (h.ff x) (fun hx => ?_)⟩
  · refine (h.mods.trans m8 (fun i hi => ?_)).trans mq (fun i hi => ?_)
    · rcases h.ff _ hfz.2 with h1 | h1
      · exact .inl (.inr (by rw [hi]; exact h1))
      · exact .inr (by rw [hi]; exact h1)
    · rcases h.ff _ hfz.1 with h1 | h1
      · exact .inl (.inr (by rw [hi]; exact h1))
      · exact .inr (by rw [hi]; exact h1)
  · rcases hat with e | e
    · injection e with e; rw [hx, ← e]; exact h.ff _ hfz.2
    · right; rw [hx, e]; exact hs
end
set_option maxRecDepth 20000 in
set_option maxHeartbeats 8000000 in
theorem walLoad1 (h : LX B S F w p g l D Z Y SA sc RA rc) (hs : l.segs = []) (hr : l.recs = []) (hB : B ≤ w.heap.size) (hcnt : D.cnt ≤ 1000) (f : Fd) (hera : f.era = l.era) (hfn : f.name.length ≤ 1000) (hfe : f.era ≤ 1000000000000) (hff : f.first ≤ 1000000000000)
    (hdn : D.down = false) (hok : nameOk f.name = true) (b : List UInt8) (hb : fget D.files f.name = some b) (hbl : b.length ≤ 100000000) (hst : stopF D f = b.length)
    (xb cx : Nat) (hxb : xb < w.heap.size) (d0 : w.cell? ⟨xb, 0, none⟩ = some (.string ⟨f.name.toArray⟩)) (d1 : w.cell? ⟨xb, 1, none⟩ = some (.int .u64 (f.era : Int))) (d2 : w.cell? ⟨xb, 2, none⟩ = some (.int .u64 (f.first : Int))) :
    Calls Tryz.prog 26 #[.pointer (some ⟨p, 0, none⟩), .slice (some ⟨xb, 0, none⟩) 1 cx] w (LDone B S F w p g (.int .i64 (loadF [f] l true D).1) (loadF [f] l true D).2.1 (loadF [f] l true D).2.2) := by
  have hZ : Z = [] := by
    have := h.lens.1
    rw [hs] at this
    exact List.eq_nil_of_length_eq_zero this
  subst hZ
  have hY : Y = [] := by
    have := h.lens.2
    rw [hr] at this
    exact List.eq_nil_of_length_eq_zero this
  subst hY
  obtain ⟨l2, hl2⟩ : ∃ l2, l2 = takeF l D f := ⟨_, rfl⟩
  have hl2' : l2 = { l with first := f.first, segs := [⟨f.name, f.first, 0 :: (scanF b f.first).2⟩], recs := (scanF b f.first).1 } := by
    rw [hl2]; unfold takeF; rw [hs, hr, hb]; rfl
  obtain ⟨q, hq⟩ : ∃ q, q = loadF [f] l true D := ⟨_, rfl⟩
  have hq' : q = ((syncD D).1, l2, (syncD D).2) := by
    rw [hq]
    unfold loadF
    rw [if_neg (by simp [unfit, hera, hs]), if_pos (by rw [hst, hb]; rfl)]
    unfold loadF
    rw [if_neg (by rw [← hl2, hl2']; simp), ← hl2]
  rw [← hq]
  have HQ := Lib.hid hq'
  have HL2 := Lib.hid hl2'
  have HX := Lib.hid h
  have HS := Lib.hid hs
  have HR := Lib.hid hr
  have HST : Hid ((0 :: (scanF b f.first).2).getLastD 0 = b.length) := Lib.hid (by have := hst; unfold stopF at this; rw [hb] at this; exact this)
  have HBF := Lib.hid (And.intro hb (And.intro hok hdn))
  clear h hs hr hq hq' hl2 hl2' hst hb hok hdn
  go_enter Tryz.func26, Tryz.ntmps26
  go_wp2_with fail
  go_loopw [5, 19] (fun s5 s19 wr => s5 = .bool true ∧ ((s19 = .int .i64 0 ∧ wr = w) ∨ (s19 = .int .i64 1 ∧ Hid (∃ F' Z' Y' SA' sc' RA' rc', LX B S F' wr p g l2 D Z' Y' SA' sc' RA' rc' ∧ (∀ x, F' x → F x ∨ w.heap.size ≤ x) ∧ Mods (fun x => S x ∨ F x) w wr)))) (fun _ s19 _ => 1 - (intOf s19).toNat)
  case atStart => exact ⟨rfl, .inl ⟨rfl, by first | rfl | trivial⟩⟩
  case round =>
    obtain ⟨rfl, ⟨rfl, rfl⟩ | ⟨rfl, HL⟩⟩ := hrel
    · -- the file
      obtain ⟨hba, hxa⟩ := below_row wr #[.string ⟨#[]⟩, .int .u64 0, .int .u64 0] #[.string ⟨f.name.toArray⟩, .int .u64 (f.era : Int), .int .u64 (f.first : Int)] TF
      have HZ := Lib.hid (Blk.new wr #[.string ⟨#[]⟩, .int .u64 0, .int .u64 0] TF)
      have HXA := Lib.hid hxa
      have HBA := Lib.hid hba
      clear hba hxa
      go_upto_region 5 with (refine wpList_store_row rfl TF (.tmp 7) (.tmp 22) rfl wr.heap.size #[.string ⟨f.name.toArray⟩, .int .u64 (f.era : Int), .int .u64 (f.first : Int)] rfl rfl _ _ HZ.out found_size rfl (by simp [Value.oneCell']) ?_)
      clear HZ HXA HBA
      have hbs : Below wr.heap.size wr (wr.alloc (.cells #[.string ⟨f.name.toArray⟩, .int .u64 (l.era : Int), .int .u64 (f.first : Int)] TF)) := (Below.refl _ _).alloc (Nat.le_refl _) _
      have hfb := Blk.new wr #[.string ⟨f.name.toArray⟩, .int .u64 (l.era : Int), .int .u64 (f.first : Int)] TF
      have hsz1 : wr.heap.size < (wr.alloc (.cells #[.string ⟨f.name.toArray⟩, .int .u64 (l.era : Int), .int .u64 (f.first : Int)] TF)).heap.size := by simp
      have HX1 := Lib.hid (HX.out.below hbs)
      have HB1 := Lib.hid hbs
      have HFB := Lib.hid hfb
      clear hbs hfb d0 d1 d2
      generalize wr.alloc (.cells #[.string ⟨f.name.toArray⟩, .int .u64 (l.era : Int), .int .u64 (f.first : Int)] TF) = w1 at *
      have f1 : w1.cell? ⟨wr.heap.size, 1, none⟩ = some (.int .u64 (l.era : Int)) := HFB.out.cell 1 rfl
      have e1 : w1.cell? ⟨p, 1, none⟩ = some (.int .u64 (l.era : Int)) := HX1.out.blk.cell 1 rfl
      have e2 : w1.cell? ⟨p, 2, none⟩ = some (.slice SA 0 sc) := by
        have e : w1.cell? ⟨p, 2, none⟩ = some (.slice SA l.segs.length sc) := HX1.out.blk.cell 2 rfl
        rw [HS.out] at e; exact e
      go_quiet (fail)
      clear f1 e1 e2
      have HX2 := Lib.hid (HX1.out.below (belowDrewN (Below.refl _ _) nq))
      have HFB2 := Lib.hid (HFB.out.kept (belowDrewN (Below.refl _ _) nq))
      have HB2 := Lib.hid (belowDrewN HB1.out nq)
      have hsz2 : wr.heap.size < (w1.drewN nq).heap.size := Nat.lt_of_lt_of_le hsz1 (belowDrewN (Below.refl w1.heap.size w1) nq).size
      generalize w1.drewN nq = w2 at *
      clear HX1 HFB HB1
      go_upto_region 9 with fail
      refine wp_region_planE_gen (by kernel_rfl) [(0, none), (1, none), (2, none), (3, none), (4, none), (5, none), (6, some [3, 5]), (7, none), (8, none), (9, none), (10, none), (11, none)] (by kernel_rfl) (by kernel_rfl) (by decide) ?_
      intro wq hwq
      have hBq : Below w2.heap.size w2 wq := by rw [hwq]; exact (Below.refl _ _).drew
      have HXQ := Lib.hid (HX2.out.below hBq)
      have HFQ := Lib.hid (HFB2.out.kept hBq)
      have HBQ := Lib.hid (HB2.out.trans (hBq.mono HB2.out.size))
      have y0 : wq.cell? ⟨p, 0, none⟩ = some (.pointer (some ⟨g, 0, none⟩)) := HXQ.out.blk.cell 0 rfl
      have yf : wq.cell? ⟨wr.heap.size, 0, none⟩ = some (.string ⟨f.name.toArray⟩) := HFQ.out.cell 0 rfl
      clear hwq hBq HX2 HFB2 HB2
      iterate 3 (refine planE_pure (v := ?_) rfl (by rfl) (fun w' => ?_) ?_; rotate_left; (focus (simp only [List.getElem_toArray, List.getElem_cons_succ, List.getElem_cons_zero]; go_simp; first | with_reducible rfl | (simp (disch := omega) only [if_pos, if_neg, dif_pos, Result.andThen_ok]; try with_reducible rfl) | skip)); try simp only [List.getElem_toArray, List.getElem_cons_succ, List.getElem_cons_zero, Act.put, List.setIfInBounds_toArray, List.set_cons_zero, List.set_cons_succ])
      refine planE_cells (v := ?_) [(⟨p, 0, none⟩, .pointer (some ⟨g, 0, none⟩))] (by simp; and_intros <;> assumption) rfl (by rfl) (fun w' hw' => ?_) ?_; rotate_left; (focus (simp only [List.forall_mem_cons, List.not_mem_nil, false_imp_iff, implies_true, and_true] at hw'; simp only [List.getElem_toArray, List.getElem_cons_succ, List.getElem_cons_zero]; go_simp; first | with_reducible rfl | (simp (disch := omega) only [if_pos, if_neg, dif_pos, Result.andThen_ok]; try with_reducible rfl) | skip)); try simp only [List.getElem_toArray, List.getElem_cons_succ, List.getElem_cons_zero, Act.put, List.setIfInBounds_toArray, List.set_cons_zero, List.set_cons_succ]
      iterate 1 (refine planE_pure (v := ?_) rfl (by rfl) (fun w' => ?_) ?_; rotate_left; (focus (simp only [List.getElem_toArray, List.getElem_cons_succ, List.getElem_cons_zero]; go_simp; first | with_reducible rfl | (simp (disch := omega) only [if_pos, if_neg, dif_pos, Result.andThen_ok]; try with_reducible rfl) | skip)); try simp only [List.getElem_toArray, List.getElem_cons_succ, List.getElem_cons_zero, Act.put, List.setIfInBounds_toArray, List.set_cons_zero, List.set_cons_succ])
      refine planE_cells (v := ?_) [(⟨wr.heap.size, 0, none⟩, .string ⟨f.name.toArray⟩)] (by simp; and_intros <;> assumption) rfl (by rfl) (fun w' hw' => ?_) ?_; rotate_left; (focus (simp only [List.forall_mem_cons, List.not_mem_nil, false_imp_iff, implies_true, and_true] at hw'; simp only [List.getElem_toArray, List.getElem_cons_succ, List.getElem_cons_zero]; go_simp; first | with_reducible rfl | (simp (disch := omega) only [if_pos, if_neg, dif_pos, Result.andThen_ok]; try with_reducible rfl) | skip)); try simp only [List.getElem_toArray, List.getElem_cons_succ, List.getElem_cons_zero, Act.put, List.setIfInBounds_toArray, List.set_cons_zero, List.set_cons_succ]
      refine planE_eff rfl (by rfl) (fun K hK => ?_)
      go_simp
      have hre : readE D f.name = 0 := by unfold readE; rw [HBF.out.2.2, HBF.out.2.1, HBF.out.1]; rfl
      have hrb : readB D f.name = b := by unfold readB; rw [if_pos hre, HBF.out.1]; rfl
      have RD := diskReadC f.name HXQ.out.lb.di (by omega)
      unfold ReadEnd at RD
      rw [hre, hrb] at RD
      refine RD.mono ?_
      rintro e w5 ⟨DA, dc, rfl, ho5, hb5⟩
      have HX5 := Lib.hid (HXQ.out.below hb5)
      have HF5 := Lib.hid (HFQ.out.kept hb5)
      have HB5 := Lib.hid (HBQ.out.trans (hb5.mono HBQ.out.size))
      have HO5 := Lib.hid (ho5.base_le (base' := wr.heap.size) HBQ.out.size)
      clear y0 yf ho5 hb5 HXQ HFQ HBQ RD hre hrb
      have y0 : w5.cell? ⟨p, 0, none⟩ = some (.pointer (some ⟨g, 0, none⟩)) := HX5.out.blk.cell 0 rfl
      have yf : w5.cell? ⟨wr.heap.size, 0, none⟩ = some (.string ⟨f.name.toArray⟩) := HF5.out.cell 0 rfl
      refine hK _ _ (by simp [owed, left] <;> (and_intros <;> first | trivial | assumption)) ?_
      clear hK K
      try simp only [List.getElem_toArray, List.getElem_cons_succ, List.getElem_cons_zero, Act.put, List.setIfInBounds_toArray, List.set_cons_zero, List.set_cons_succ]
      iterate 5 (refine planE_pure (v := ?_) rfl (by rfl) (fun w' => ?_) ?_; rotate_left; (focus (simp only [List.getElem_toArray, List.getElem_cons_succ, List.getElem_cons_zero]; go_simp; first | with_reducible rfl | (simp (disch := omega) only [if_pos, if_neg, dif_pos, Result.andThen_ok]; try with_reducible rfl) | skip)); try simp only [List.getElem_toArray, List.getElem_cons_succ, List.getElem_cons_zero, Act.put, List.setIfInBounds_toArray, List.set_cons_zero, List.set_cons_succ])
      refine planE_end ?_
      clear y0 yf
      have p4 : w5.cell? ⟨p, 4, none⟩ = some (.int .u64 (l.first : Int)) := HX5.out.blk.cell 4 rfl
      have r4 : w5.frozen? ⟨p, 4, none⟩ = false := HX5.out.blk.free 4
      have e2 : w5.cell? ⟨p, 2, none⟩ = some (.slice SA 0 sc) := by
        have e : w5.cell? ⟨p, 2, none⟩ = some (.slice SA l.segs.length sc) := HX5.out.blk.cell 2 rfl
        rw [HS.out] at e; exact e
      have n0 : w5.cell? ⟨wr.heap.size, 0, none⟩ = some (.string ⟨f.name.toArray⟩) := HF5.out.cell 0 rfl
      have n2 : w5.cell? ⟨wr.heap.size, 2, none⟩ = some (.int .u64 (f.first : Int)) := HF5.out.cell 2 rfl
      go_upto_region 14 with fail
      clear p4 r4 e2 n0 n2
      have mp : Mods (· = p) w5 (w5.setCell ⟨p, 4, none⟩ (.int .u64 (f.first : Int))) := (Mods.refl (· = p) w5).setCell ⟨p, _, none⟩ (.inl rfl) _
      have HX6 : Hid (LX B S F (w5.setCell ⟨p, 4, none⟩ (.int .u64 (f.first : Int))) p g { l with first := f.first } D [] [] SA sc RA rc) := Lib.hid (HX5.out.set 4 _ rfl rfl rfl)
      have HF6 := Lib.hid (HF5.out.mods mp (HF5.out.ne HX5.out.blk (by decide)))
      have HO6 := Lib.hid (HO5.out.mods mp (fun k hk e => HO5.out.ne_blk HX5.out.blk (by decide) (by rw [hk, e])))
      have HM6 : Hid (Mods (fun x => S x ∨ F x) wr (w5.setCell ⟨p, 4, none⟩ (.int .u64 (f.first : Int)))) := Lib.hid ((Mods.of_below HB5.out).trans mp (fun i hi => .inl (.inr (by rw [hi]; exact HX5.out.fp))))
      clear mp HX5 HF5 HO5 HB5
      generalize w5.setCell ⟨p, 4, none⟩ (.int .u64 (f.first : Int)) = w6 at *
      have hsz6 : wr.heap.size ≤ w6.heap.size := HM6.out.size
      have n0 : w6.cell? ⟨wr.heap.size, 0, none⟩ = some (.string ⟨f.name.toArray⟩) := HF6.out.cell 0 rfl
      have n2 : w6.cell? ⟨wr.heap.size, 2, none⟩ = some (.int .u64 (f.first : Int)) := HF6.out.cell 2 rfl
      go_upto_region 15 with fail
      clear n0 n2
      have hB6 : B ≤ w6.heap.size := Nat.le_trans hB hsz6
      have hm1 : OV (w6.alloc (.cells #[.int .i64 0] 3)) B 3 (some ⟨w6.heap.size, 0, none⟩) 1 [.int .i64 0] := OV.lit1 w6 hB6 _ _
      have hq1 := Blk.new (w6.alloc (.cells #[.int .i64 0] 3)) #[.string ⟨f.name.toArray⟩, .int .u64 (f.first : Int), .slice (some ⟨w6.heap.size, 0, none⟩) 1 1] TG
      rw [show (w6.alloc (.cells #[.int .i64 0] 3)).heap.size = w6.heap.size + 1 from by simp] at hq1
      have hb8 : Below w6.heap.size w6 ((w6.alloc (.cells #[.int .i64 0] 3)).alloc (.cells #[.string ⟨f.name.toArray⟩, .int .u64 (f.first : Int), .slice (some ⟨w6.heap.size, 0, none⟩) 1 1] TG)) := ((Below.refl _ _).alloc (Nat.le_refl _) _).alloc (by simp) _
      have hsg8 : SgAt ((w6.alloc (.cells #[.int .i64 0] 3)).alloc (.cells #[.string ⟨f.name.toArray⟩, .int .u64 (f.first : Int), .slice (some ⟨w6.heap.size, 0, none⟩) 1 1] TG)) B ⟨f.name, f.first, [0]⟩ ⟨w6.heap.size + 1, w6.heap.size, 1⟩ := ⟨hq1, hm1.alloc _, by simp⟩
      have HSG8 := Lib.hid hsg8
      have HB8 := Lib.hid hb8
      clear hm1 hq1 hb8 hsg8
      generalize (w6.alloc (.cells #[.int .i64 0] 3)).alloc (.cells #[.string ⟨f.name.toArray⟩, .int .u64 (f.first : Int), .slice (some ⟨w6.heap.size, 0, none⟩) 1 1] TG) = w8 at *
      have hsz8 : w6.heap.size ≤ w8.heap.size := HB8.out.size
      obtain ⟨i0, hi0, hz0, hz1, hz2⟩ := info_parts tp_info
      have hb9 : Below w8.heap.size w8 (w8.alloc (.cells #[.pointer (some ⟨w6.heap.size + 1, 0, none⟩)] TP)) := (Below.refl _ _).alloc (Nat.le_refl _) _
      have HL9 := Lib.hid ((Blk.new w8 #[.pointer (some ⟨w6.heap.size + 1, 0, none⟩)] TP).cell (j := 0) (v := .pointer (some ⟨w6.heap.size + 1, 0, none⟩)) rfl)
      have HX9 := Lib.hid (HX6.out.below (HB8.out.trans (hb9.mono hsz8)))
      have HSG9 := Lib.hid (HSG8.out.below hb9)
      have HB9 := Lib.hid (HB8.out.trans (hb9.mono hsz8))
      have hsz9 : B ≤ (w8.alloc (.cells #[.pointer (some ⟨w6.heap.size + 1, 0, none⟩)] TP)).heap.size := Nat.le_trans hB6 HB9.out.size
      have HSV : Hid (OV (w8.alloc (.cells #[.pointer (some ⟨w6.heap.size + 1, 0, none⟩)] TP)) B TP SA sc []) := Lib.hid HX9.out.lb.sv
      have e2 : w8.cell? ⟨p, 2, none⟩ = some (.slice SA 0 sc) := by
        have e : w8.cell? ⟨p, 2, none⟩ = some (.slice SA l.segs.length sc) := (HX6.out.blk.kept HB8.out).cell 2 rfl
        rw [HS.out] at e; exact e
      clear hb9
      go_wp2_with (at_builtin; go_loud (refine wp_appendK _ rfl (.tmp 94) (.tmp 96) 54 TP rfl Tryz.underlying54 hi0 hz0 hz1 hz2 rfl B SA sc 1 w8.heap.size [] (.pointer (some ⟨w6.heap.size + 1, 0, none⟩)) rfl rfl HSV.out HL9.out rfl (by simp) (by simp) hsz9 ?_))
      intro ys m g8 c8 w10 hys hm8 ho8 hk8 hg8 hat8
      have hm1 : m = 1 := hm8
      subst hm1
      have hat9 : SA.map (·.block) = some g8 ∨ g8 = (w8.alloc (.cells #[.pointer (some ⟨w6.heap.size + 1, 0, none⟩)] TP)).heap.size := by
        rcases hat8 with ⟨a, e1, e2⟩ | e1
        · exact .inl (by rw [e1, ← e2]; rfl)
        · exact .inr (by rw [e1]; simp)
      have m8 := Mods.of_grown (S := fun x => SA.map (·.block) = some x) hg8 (fun _ h => h)
      have hp8 := HX9.out.blk.mods m8 (HX9.out.lb.sv.ne_blk HX9.out.blk (by decide))
      have hO10 := (HO6.out.below HB9.out).mods m8 (fun k hk e => by
        obtain ⟨cs, hb⟩ := (HO6.out.below HB9.out).blk k hk
        exact HX9.out.lb.sv.ne_blk hb (by decide) e)
      have hADD := HX9.out.addNew (n0 := w6.heap.size) (n := 1) HSG9.out ⟨by show w6.heap.size ≤ w6.heap.size + 1; omega, Nat.le_refl _⟩ hB6 (fun b hb => HX6.out.lb.di.bnd b hb) (fun b hb => (HX6.out.lb.bnd b hb).2) HB9.out.size hg8 ho8 hat9 (by rw [HS.out]; exact hm8)
      have mp : Mods (· = p) w10 (w10.setCell ⟨p, 2, none⟩ (.slice (some ⟨g8, 0, none⟩) 1 c8)) := (Mods.refl (· = p) w10).setCell ⟨p, _, none⟩ (.inl rfl) _
      have HADD := Lib.hid hADD
      have HO11 := Lib.hid (hO10.mods mp (fun k hk e => hO10.ne_blk hp8 (by decide) (by rw [hk, e])))
      have HM11 : Hid (Mods (fun x => S x ∨ F x) wr (w10.setCell ⟨p, 2, none⟩ (.slice (some ⟨g8, 0, none⟩) 1 c8))) := Lib.hid (((HM6.out.trans (Mods.of_below (S := fun x => S x ∨ F x) HB9.out) (fun i hi => .inl hi)).trans m8 (fun i hi => .inl (.inr (HX9.out.lb.fs i hi)))).trans mp (fun i hi => .inl (.inr (by rw [hi]; exact HX9.out.fp))))
      have y2 : w10.cell? ⟨p, 2, none⟩ = some (.slice SA 0 sc) := by
        have e : w10.cell? ⟨p, 2, none⟩ = some (.slice SA l.segs.length sc) := hp8.cell 2 rfl
        rw [HS.out] at e; exact e
      have f2 : w10.frozen? ⟨p, 2, none⟩ = false := hp8.free 2
      clear hys hk8 ho8 hg8 hat8 hat9 hADD hO10 mp m8 HSG9 HSG8 HL9 HSV HX9 e2
      go_upto_block 2 with fail
      have hsz11 : wr.heap.size ≤ w10.heap.size := by have := HM11.out.size; simpa using this
      have HSC : Hid (ScanAt B S F wr p g l D f b DA dc (w6.heap.size + 1) 0 0 w6.heap.size 1 (w10.setCell ⟨p, 2, none⟩ (.slice (some ⟨g8, 0, none⟩) 1 c8))) := Lib.hid (by
        have hx := HADD.out
        rw [HS.out, HR.out] at hx
        refine ⟨⟨fun x => F x ∨ (w6.heap.size ≤ x ∧ x < w10.heap.size), [], some ⟨g8, 0, none⟩, c8, RA, rc, ?_, fun x hx => hx.imp id (fun h => by omega)⟩, HO11.out, rfl, ⟨b.length, by rw [List.drop_zero, List.drop_zero]; rfl, by omega⟩, ⟨by omega, by omega⟩, ⟨Nat.zero_le _, Nat.zero_le _⟩, HM11.out⟩
        simp only [List.take_zero]
        exact hx)
      clear HADD HO11 HM11 y2 f2 hp8 HO6 HF6 HX6 HM6 HB9 hB6 hsz6 hsz8 hsz9 hsz11
      generalize w10.setCell ⟨p, 2, none⟩ (.slice (some ⟨g8, 0, none⟩) 1 c8) = w12 at *
      generalize w6.heap.size + 1 = q0 at *
      generalize w6.heap.size = mb0 at *
      have HSD : ∀ b, S b → b < wr.heap.size := fun b hb => HX.out.lb.di.bnd b hb
      obtain ⟨w0, hw0⟩ : ∃ w0, w0 = wr := ⟨_, rfl⟩
      subst hw0
      go_wp2_with fail
      go_loopw [] (fun wr => ∃ (j x MB MC : Nat), Hid (ScanAt B S F w0 p g l D f b DA dc q0 j x MB MC wr)) (fun wr => match wr.cell? ⟨p, 3, none⟩ with | some (.slice _ n _) => b.length - n | _ => 0)
      case atStart => exact ⟨0, 0, _, _, HSC⟩
      case round =>
        obtain ⟨j, x, MB, MC, HS2⟩ := hrel
        by_cases hlt : x < b.length
        · have hsc := HS2.out
          obtain ⟨F', Y', SA', sc', RA', rc', hlx, hff⟩ := hsc.lx
          obtain ⟨k, hk, hbk⟩ := hsc.rest
          obtain ⟨r, nx, hrec⟩ : ∃ r nx, recAt b x (f.first + j) = some (r, nx) := by
            rcases hr : recAt b x (f.first + j) with _ | ⟨r, nx⟩
            · exfalso
              have hd := (hsc.done (scan_end hk (.inr hr))).2
              rw [HST.out] at hd; omega
            · exact ⟨r, nx, rfl⟩
          obtain ⟨e1, e2, k', hk', hbk'⟩ := scan_step hk hbk hlt hrec
          obtain ⟨hn1, hn2, hr3⟩ := recAt_ok hrec
          have hlow := hsc.low
          have hj1 : j < (scanF b f.first).1.length := by
            rcases Nat.lt_or_ge j (scanF b f.first).1.length with h | h
            · exact h
            · rw [List.getElem?_eq_none h] at e1; cases e1
          have hj2 : j < (scanF b f.first).2.length := by
            rcases Nat.lt_or_ge j (scanF b f.first).2.length with h | h
            · exact h
            · rw [List.getElem?_eq_none h] at e2; cases e2
          obtain ⟨R, hR⟩ : ∃ R, R = (scanF b f.first).1.take j := ⟨_, rfl⟩
          obtain ⟨M, hM⟩ : ∃ M, M = (scanF b f.first).2.take j := ⟨_, rfl⟩
          have hRl : R.length = j := by rw [hR, List.length_take]; omega
          have hMl : M.length = j := by rw [hM, List.length_take]; omega
          have t1 : Hid ((scanF b f.first).1.take (j + 1) = R ++ [r]) := Lib.hid (by rw [hR, List.take_add_one, e1]; rfl)
          have t2 : Hid ((scanF b f.first).2.take (j + 1) = M ++ [nx]) := Lib.hid (by rw [hM, List.take_add_one, e2]; rfl)
          have hst : Sg.stop ⟨f.name, f.first, 0 :: M⟩ = x := by rw [hM]; exact hsc.stop
          have hnxt : Sg.next ⟨f.name, f.first, 0 :: M⟩ = f.first + j := by unfold Sg.next; simp only [List.length_cons]; omega
          rw [← hR, ← hM] at hlx
          have HNEW : Hid (∀ MB' MC' wy, (∃ F' Y' SA' sc' RA' rc', LX B S F' wy p g { l with first := f.first, segs := [⟨f.name, f.first, 0 :: (M ++ [nx])⟩], recs := R ++ [r] } D [(⟨f.name, f.first, 0 :: (M ++ [nx])⟩, ⟨q0, MB', MC'⟩)] Y' SA' sc' RA' rc' ∧ ∀ x, F' x → F x ∨ w0.heap.size ≤ x) → OB wy w0.heap.size DA dc b → Mods (fun x => S x ∨ F x) w0 wy → ScanAt B S F w0 p g l D f b DA dc q0 (j + 1) nx MB' MC' wy) := Lib.hid (fun MB' MC' wy h1 h2 h3 => ⟨by rw [t1.out, t2.out]; exact h1, h2, by rw [t2.out]; rw [← List.cons_append, List.getLastD_concat], ⟨k', hk', hbk'⟩, ⟨by omega, hn2⟩, ⟨by omega, by omega⟩, h3⟩)
          have HSO : Hid (ScanO B S F F' w0 p g { l with first := f.first, segs := [⟨f.name, f.first, 0 :: M⟩], recs := R } D [(⟨f.name, f.first, 0 :: M⟩, ⟨q0, MB, MC⟩)] Y' SA' sc' RA' rc' b DA dc wr) := Lib.hid ⟨hlx, hsc.data, hsc.mods, hff⟩
          have hYl : Y'.length = j := by rw [hlx.lens.2]; exact hRl
          have hm3 : Hid (wr.cell? ⟨p, 3, none⟩ = some (.slice RA' j rc')) := Lib.hid (by
            have e : wr.cell? ⟨p, 3, none⟩ = some (.slice RA' R.length rc') := hlx.blk.cell 3 rfl
            rw [hRl] at e; exact e)
          have hml : (0 :: M).length ≤ 1000000000 := by simp only [List.length_cons]; omega
          have hcap := hsc.data.cap
          have SE := Lib.hid (segEnd (hlx.lb.sg (⟨f.name, f.first, 0 :: M⟩, ⟨q0, MB, MC⟩) (by simp)) hml)
          rw [hst] at SE
          have hltI : (x : Int) < (b.length : Int) := by omega
          have HJB : Hid (j + 1 ≤ b.length) := Lib.hid (by omega)
          have hj8 : j ≤ 100000000 := by omega
          have hWX := Lib.hid hsc.mods.size
          have HDB : Hid (∀ b, S b → b < w0.heap.size) := Lib.hid (fun b hb => HSD b hb)
          clear hsc hlx hff hk hbk hk' hbk' e1 e2 hj1 hj2 hR hM HS2 HSC t1 t2 hlow
          go_wp2_with (go_at_call 28; refine SE.out.mono ?_)
          first | rintro e w13 rfl n1 rfl | rintro e w13 ⟨rfl, n1, rfl⟩
          have HSO1 := Lib.hid (HSO.out.below (belowDrewN (Below.refl _ _) n1))
          have hs13 : wr.heap.size ≤ (wr.drewN n1).heap.size := (belowDrewN (Below.refl wr.heap.size wr) n1).size
          clear SE HSO
          generalize wr.drewN n1 = w13 at *
          have SE := Lib.hid (segEnd (HSO1.out.lx.lb.sg (⟨f.name, f.first, 0 :: M⟩, ⟨q0, MB, MC⟩) (by simp)) hml)
          rw [hst] at SE
          go_wp2_with (go_at_call 28; refine SE.out.mono ?_)
          first | rintro e w14 rfl n2 rfl | rintro e w14 ⟨rfl, n2, rfl⟩
          have HSO2 := Lib.hid (HSO1.out.below (belowDrewN (Below.refl _ _) n2))
          have hs14 : wr.heap.size ≤ (w13.drewN n2).heap.size := Nat.le_trans hs13 (belowDrewN (Below.refl w13.heap.size w13) n2).size
          clear SE HSO1
          generalize w13.drewN n2 = w14 at *
          have SN := Lib.hid (segNext (HSO2.out.lx.lb.sg (⟨f.name, f.first, 0 :: M⟩, ⟨q0, MB, MC⟩) (by simp)) hml (by simp only [List.length_cons]; omega))
          rw [hnxt] at SN
          go_wp2_with (go_at_call 54; refine SN.out.mono ?_)
          first | rintro e w15 rfl n3 rfl | rintro e w15 ⟨rfl, n3, rfl⟩
          have HSO3 := Lib.hid (HSO2.out.below (belowDrewN (Below.refl _ _) n3))
          have hs15 : wr.heap.size ≤ (w14.drewN n3).heap.size := Nat.le_trans hs14 (belowDrewN (Below.refl w14.heap.size w14) n3).size
          clear SN HSO2
          generalize w14.drewN n3 = w15 at *
          have WR := Lib.hid (walRecord DA dc b x (f.first + j) w15 HSO3.out.data.rb hcap.1 hcap.2 (by omega) (by omega))
          rw [hrec] at WR
          go_wp2_with (go_at_call 53; refine WR.out.mono ?_)
          rintro e w16 ⟨hb16, A', n', c', x', rfl, hall⟩
          obtain ⟨rfl, rfl, hrb, hrk⟩ := hall r nx rfl
          have HSO4 := Lib.hid (HSO3.out.below hb16)
          have hs16 : w15.heap.size ≤ w16.heap.size := hb16.size
          obtain ⟨i0b, hi0b, hz0b, hz1b, hz2b⟩ := info_parts tb_info
          have hb17 : Below w16.heap.size w16 (w16.alloc (.cells #[.slice A' r.length c'] TB)) := (Below.refl _ _).alloc (Nat.le_refl _) _
          have HC17 := Lib.hid ((Blk.new w16 #[.slice A' r.length c'] TB).cell (j := 0) (v := .slice A' r.length c') rfl)
          have HSO5 := Lib.hid (HSO4.out.below hb17)
          have HRB := Lib.hid (hrb.below hb17)
          have HRK : Hid (0 < r.length → ∀ b, A'.map (·.block) = some b → w15.heap.size ≤ b ∧ ∃ cs, Blk (w16.alloc (.cells #[.slice A' r.length c'] TB)) b 5 cs) := Lib.hid (fun h0 b hb => by
            obtain ⟨h1, cs, h2⟩ := hrk h0 b hb
            exact ⟨h1, cs, h2.kept hb17⟩)
          have hs17 : B ≤ (w16.alloc (.cells #[.slice A' r.length c'] TB)).heap.size := by have := hb17.size; have := HSO4.out.mods.size; omega
          have hs17b : w15.heap.size ≤ (w16.alloc (.cells #[.slice A' r.length c'] TB)).heap.size := by have := hb17.size; omega
          obtain ⟨xs, hxs⟩ : ∃ xs, xs = Y'.map recV := ⟨_, rfl⟩
          have hxl : xs.length = j := by rw [hxs, List.length_map, hYl]
          have HSV := HSO5.out.lx.lb.rv
          rw [← hxs] at HSV
          have HSV2 := Lib.hid HSV
          have c3 : w16.cell? ⟨p, 3, none⟩ = some (.slice RA' xs.length rc') := by
            have e : w16.cell? ⟨p, 3, none⟩ = some (.slice RA' R.length rc') := HSO4.out.lx.blk.cell 3 rfl
            rw [hRl, ← hxl] at e; exact e
          have HXS := Lib.hid hxs
          have HXL := Lib.hid hxl
          have hxl8 : xs.length ≤ 100000000 := by omega
          clear WR hall hrb hrk HSV hxs hxl HSO3 hb16 hb17 hst hnxt
          go_wp2_with (at_builtin; go_loud (refine wp_appendK _ rfl (.tmp 121) (.tmp 123) 22 TB rfl Tryz.underlying22 hi0b hz0b hz1b hz2b rfl B RA' rc' 1 w16.heap.size xs (.slice A' r.length c') rfl rfl HSV2.out HC17.out rfl (by omega) (by omega) hs17 ?_))
          intro ys m9 g9 c9 w18 hys hm9 ho9 hk9 hg9 hat9
          subst hm9
          have hat9' : RA'.map (·.block) = some g9 ∨ g9 = (w16.alloc (.cells #[.slice A' r.length c'] TB)).heap.size := by
            rcases hat9 with ⟨a, e1, e2⟩ | e1
            · exact .inl (by rw [e1, ← e2]; rfl)
            · exact .inr (by rw [e1]; simp)
          have hw0r := hWX.out
          have HADD := Lib.hid (HSO5.out.addRead (n := xs.length + 1) (g8 := g9) (n0 := w15.heap.size) HRB.out HRK.out hB (by omega) hs17b (fun b hb => by have := HDB.out b hb; omega) hg9 (by rw [← HXS.out]; exact ho9) hat9' (by rw [HXL.out]; exact congrArg (· + 1) hRl.symm))
          have m9' := Mods.of_grown (S := fun x => RA'.map (·.block) = some x) hg9 (fun _ h => h)
          have hp9 := HSO5.out.lx.blk.mods m9' (HSO5.out.lx.lb.rv.ne_blk HSO5.out.lx.blk (by decide))
          have y3 : w18.cell? ⟨p, 3, none⟩ = some (.slice RA' xs.length rc') := by
            have e : w18.cell? ⟨p, 3, none⟩ = some (.slice RA' R.length rc') := hp9.cell 3 rfl
            rw [hRl, ← HXL.out] at e; exact e
          have f3 : w18.frozen? ⟨p, 3, none⟩ = false := hp9.free 3
          clear hys ho9 hk9 hat9 hat9' m9' hp9 HSO5 HSO4 HRB HRK HC17 HSV2 hg9 c3
          go_upto_region 20 with fail
          clear y3 f3
          generalize w18.setCell ⟨p, 3, none⟩ (.slice (some ⟨g9, 0, none⟩) (xs.length + 1) c9) = w19 at *
          obtain ⟨i0, hi0, hz0, hz1, hz2⟩ := info_parts int_info
          have hsg := HADD.out.lx.lb.sg (⟨f.name, f.first, 0 :: M⟩, ⟨q0, MB, MC⟩) (by simp)
          obtain ⟨xm, hxm⟩ : ∃ xm, xm = (0 :: M).map encMark := ⟨_, rfl⟩
          have hxml : xm.length = j + 1 := by rw [hxm, List.length_map, List.length_cons, hMl]
          have z2 : w19.cell? ⟨q0, 2, none⟩ = some (.slice (some ⟨MB, 0, none⟩) xm.length MC) := by
            have e : w19.cell? ⟨q0, 2, none⟩ = some (.slice (some ⟨MB, 0, none⟩) (0 :: M).length MC) := hsg.blk.cell 2 rfl
            rw [List.length_cons, hMl, ← hxml] at e; exact e
          have hb20 : Below w19.heap.size w19 (w19.alloc (.cells #[.int .i64 (nx : Int)] 3)) := (Below.refl _ _).alloc (Nat.le_refl _) _
          have HC20 := Lib.hid ((Blk.new w19 #[.int .i64 (nx : Int)] 3).cell (j := 0) (v := .int .i64 (nx : Int)) rfl)
          have HSO6 := Lib.hid (HADD.out.below hb20)
          have HMV := HSO6.out.lx.lb.sg (⟨f.name, f.first, 0 :: M⟩, ⟨q0, MB, MC⟩) (by simp)
          have HMR := HMV.mr
          rw [show (Sg.mk f.name f.first (0 :: M)).marks.map encMark = xm from hxm.symm] at HMR
          have HMR2 := Lib.hid HMR
          have HXM := Lib.hid hxm
          have HXML := Lib.hid hxml
          have hxm8 : xm.length ≤ 100000001 := by omega
          have hs20 : B ≤ (w19.alloc (.cells #[.int .i64 (nx : Int)] 3)).heap.size := Nat.le_trans hB HSO6.out.mods.size
          clear hxm hxml HMR HMV hsg HADD hb20
          go_wp2_with (at_builtin; go_loud (refine wp_appendK _ rfl (.tmp 131) (.tmp 133) 71 3 rfl Tryz.underlying71 hi0 hz0 hz1 hz2 rfl B (some ⟨MB, 0, none⟩) MC 1 w19.heap.size xm (.int .i64 (nx : Int)) rfl rfl HMR2.out HC20.out rfl (by omega) (by omega) hs20 ?_))
          intro ys m10 g10 c10 w21 hys hm10 ho10 hk10 hg10 hat10
          subst hm10
          have hat11 : some MB = some g10 ∨ g10 = (w19.alloc (.cells #[.int .i64 (nx : Int)] 3)).heap.size := by
            rcases hat10 with e | e
            · exact .inl (by rw [e])
            · exact .inr (by rw [e]; simp)
          have HAM := Lib.hid (HSO6.out.addMark (Z1 := []) (v := nx) (n := xm.length + 1) rfl hg10 (by rw [show (Sg.mk f.name f.first (0 :: M)).marks.map encMark = xm from HXM.out.symm]; exact ho10) (by rw [show (Sg.mk f.name f.first (0 :: M)).marks.map encMark = xm from HXM.out.symm]; exact hk10) hat11 (by rw [HXML.out]; show j + 1 + 1 = (0 :: M).length + 1; rw [List.length_cons, hMl]) hB)
          have mm := Mods.of_grown (S := fun x => x = MB) hg10 (fun k e => by injection e with e; exact e.symm)
          have hsg6 := HSO6.out.lx.lb.sg (⟨f.name, f.first, 0 :: M⟩, ⟨q0, MB, MC⟩) (by simp)
          obtain ⟨csm, hmbk⟩ := hsg6.mblk
          have hq21 := hsg6.blk.mods mm (hsg6.blk.ne hmbk (by decide))
          have z2 : w21.cell? ⟨q0, 2, none⟩ = some (.slice (some ⟨MB, 0, none⟩) xm.length MC) := by
            have e : w21.cell? ⟨q0, 2, none⟩ = some (.slice (some ⟨MB, 0, none⟩) (0 :: M).length MC) := hq21.cell 2 rfl
            rw [List.length_cons, hMl, ← HXML.out] at e; exact e
          have f2 : w21.frozen? ⟨q0, 2, none⟩ = false := hq21.free 2
          have HNS : Hid (ScanAt B S F w0 p g l D f b DA dc q0 (j + 1) nx g10 c10 (w21.setCell ⟨q0, 2, none⟩ (.slice (some ⟨g10, 0, none⟩) (xm.length + 1) c10))) := Lib.hid (HNEW.out _ _ _ ⟨_, _, _, _, _, _, HAM.out.lx, HAM.out.ff⟩ HAM.out.data HAM.out.mods)
          have hm4 : Hid (∃ X c, (w21.setCell ⟨q0, 2, none⟩ (.slice (some ⟨g10, 0, none⟩) (xm.length + 1) c10)).cell? ⟨p, 3, none⟩ = some (.slice X (j + 1) c)) := Lib.hid ⟨_, _, by
            have e : (w21.setCell ⟨q0, 2, none⟩ (.slice (some ⟨g10, 0, none⟩) (xm.length + 1) c10)).cell? ⟨p, 3, none⟩ = some (.slice (some ⟨g9, 0, none⟩) (R ++ [r]).length c9) := HAM.out.lx.blk.cell 3 rfl
            rw [show (R ++ [r]).length = j + 1 from by rw [List.length_append, hRl]; rfl] at e
            exact e⟩
          clear hys ho10 hk10 hg10 hat10 hat11 mm hsg6 hmbk hq21 HSO6 HAM HMR2 HC20 HXM HXS hi0 hz0 hz1 hz2 hi0b hz0b hz1b hz2b HNEW
          go_wp2_with fail
          go_roundw
          case rel => exact ⟨j + 1, nx, g10, c10, HNS⟩
          case measure =>
            obtain ⟨X, c, e⟩ := hm4.out
            have e0 := hm3.out
            have := HJB.out
            simp only [e, e0]
            omega
        · have hsc := HS2.out
          have hxb2 : x = b.length := by have := hsc.low.2; omega
          subst hxb2
          obtain ⟨k, hk, _⟩ := hsc.rest
          have he := scan_end hk (.inl hlt)
          have hd := hsc.done he
          obtain ⟨F', Y', SA', sc', RA', rc', hlx, hff⟩ := hd.1
          have hst : Sg.stop ⟨f.name, f.first, 0 :: (scanF b f.first).2⟩ = b.length := hd.2
          have hml : (0 :: (scanF b f.first).2).length ≤ 1000000000 := by
            have h1 := congrArg List.length he.2
            rw [List.length_drop] at h1
            have := hsc.low
            simp only [List.length_cons, List.length_nil] at h1 ⊢
            omega
          have SE := Lib.hid (segEnd (hlx.lb.sg (⟨f.name, f.first, 0 :: (scanF b f.first).2⟩, ⟨q0, MB, MC⟩) (by simp)) hml)
          rw [hst] at SE
          have HLX := Lib.hid hlx
          have HFF := Lib.hid hff
          have HMD := Lib.hid hsc.mods
          clear hsc hk he hd hlx hff HS2 HSC
          go_wp2_with (go_at_call 28; refine SE.out.mono ?_)
          first | rintro e w13 rfl n1 rfl | rintro e w13 ⟨rfl, n1, rfl⟩
          have HLX2 := Lib.hid (HLX.out.below (belowDrewN (Below.refl _ _) n1))
          have HMD2 : Hid (Mods (fun x => S x ∨ F x) w0 (wr.drewN n1)) := Lib.hid (HMD.out.below (belowDrewN (Below.refl _ _) n1))
          clear SE HLX HMD
          generalize wr.drewN n1 = w13 at *
          have SE := Lib.hid (segEnd (HLX2.out.lb.sg (⟨f.name, f.first, 0 :: (scanF b f.first).2⟩, ⟨q0, MB, MC⟩) (by simp)) hml)
          rw [hst] at SE
          clear hst hml
          go_wp2_with (go_at_call 28; refine SE.out.mono ?_)
          first | rintro e w14 rfl n2 rfl | rintro e w14 ⟨rfl, n2, rfl⟩
          have HL3 : Hid (∃ F' Z' Y' SA' sc' RA' rc', LX B S F' (w13.drewN n2) p g l2 D Z' Y' SA' sc' RA' rc' ∧ (∀ x, F' x → F x ∨ w0.heap.size ≤ x) ∧ Mods (fun x => S x ∨ F x) w0 (w13.drewN n2)) := Lib.hid ⟨_, _, _, _, _, _, _, by rw [HL2.out]; exact HLX2.out.below (belowDrewN (Below.refl _ _) n2), HFF.out, HMD2.out.below (belowDrewN (Below.refl _ _) n2)⟩
          clear SE HLX2 HFF HMD2
          go_wp2_with fail
          go_roundw
          case rel => exact ⟨rfl, .inr ⟨by go_num, HL3⟩⟩
          case measure => simp [intOf]
    · -- behind it
      obtain ⟨F', Z', Y', SA', sc', RA', rc', hx, hf', hm⟩ := HL.out
      have hl2s : l2.segs.length = 1 := by rw [HL2.out]; rfl
      have c2 : wr.cell? ⟨p, 2, none⟩ = some (.slice SA' 1 sc') := by
        have e : wr.cell? ⟨p, 2, none⟩ = some (.slice SA' l2.segs.length sc') := hx.blk.cell 2 rfl
        rw [hl2s] at e; exact e
      have y0 : wr.cell? ⟨p, 0, none⟩ = some (.pointer (some ⟨g, 0, none⟩)) := hx.blk.cell 0 rfl
      have SY := Lib.hid (diskSyncC hx.lb.di (Nat.le_trans hcnt (by decide)))
      have HX2 := Lib.hid hx
      have HF2 := Lib.hid hf'
      have HM2 := Lib.hid hm
      clear hx hf' hm HL HX
      go_wp2_with (go_at_call 35; refine SY.out.mono ?_)
      rintro e w13 ⟨rfl, hd13, m13⟩
      have HF : Hid (LDone B S F w p g (.int .i64 q.1) q.2.1 q.2.2 (.returned (.int .i64 (syncD D).1)) w13) := Lib.hid (by
        have hsz := HM2.out.size
        have hx := HX2.out.disk (Nat.le_trans hB hsz) hd13 m13
        rw [HQ.out]
        refine ⟨rfl, _, _, ⟨_, _, _, _, _, _, hx⟩, fun b hb => ?_, HF2.out, HM2.out.trans m13 (fun i hi => .inl (.inl hi))⟩
        rcases hb with hb | hb
        · exact .inl hb
        · exact .inr (by have := hb.1; omega))
      clear HQ HX2 HM2 HF2 SY c2 y0 hd13 m13
      go_wp2_with fail
      go_ret
      exact HF.out
end
end Go.Proofs.YtjgonfnpfbifjaaGreatDoor
/- WalR: put together by merge.py of: WalP, WalQ. -/
/- Package wal's Open on a disk of one file, whose records are all good. -/
namespace Go.Proofs.YtjgonfnpfbifjaaGreatDoor
open Go.RowKit

theorem found_info : (Tryz.prog.info? TF).map (fun i => (i.zero, i.size, i.bytes)) = some (some (.agg #[.string ⟨#[]⟩, .int .u64 0, .int .u64 0]), 3, 32) := by kernel_rfl
section
variable {B g : Nat} {S : Nat → Prop} {w w' : World} {D : DSt}
theorem openW_one {na : Nm} {era n : Nat} (hnm : namesD D = [na]) (hpa : partsN na = some (era, n)) : openW D = loadF [⟨na, era, n⟩] { lg0 with era := era } true D := by
  unfold openW
  rw [hnm]
  have h1 : foundL [na] = [⟨na, era, n⟩] := by simp [foundL, hpa]
  rw [h1]
  have h2 : eraL [⟨na, era, n⟩] = era := by simp [eraL]
  rw [h2]
  rfl
/-- Where Open stands behind its one file's name. -/
structure OpAt (B : Nat) (S : Nat → Prop) (w : World) (g : Nat) (na : Nm) (era n : Nat) (D : DSt) (xb : Nat) (wr : World) : Prop where
  lx : LX B S (· = w.heap.size) wr w.heap.size g { lg0 with era := era } D [] [] none 0 none 0
  lt : xb < wr.heap.size
  d0 : wr.cell? ⟨xb, 0, none⟩ = some (.string ⟨na.toArray⟩)
  d1 : wr.cell? ⟨xb, 1, none⟩ = some (.int .u64 (era : Int))
  d2 : wr.cell? ⟨xb, 2, none⟩ = some (.int .u64 (n : Int))
  bel : Below w.heap.size w wr
set_option maxRecDepth 20000 in
set_option maxHeartbeats 8000000 in
theorem walOpen1 (h : DI S w g D) (hd : D.down = false) (na : Nm) (era n : Nat) (hnm : namesD D = [na]) (hpa : partsN na = some (era, n)) (hna : na.length ≤ 1000) (hok : nameOk na = true) (he : era ≤ 1000000000000) (hn : n ≤ 1000000000000)
    (b : List UInt8) (hb : fget D.files na = some b) (hbl : b.length ≤ 100000000) (hst : stopF D ⟨na, era, n⟩ = b.length) (hB : B ≤ w.heap.size) (hS : ∀ b, S b → B ≤ b) (hE : WEnv B w) (hcnt : D.cnt ≤ 1000) (hfn : ∀ q ∈ D.files, q.1.length ≤ 9223372036854775807) :
    Calls Tryz.prog 7 #[.pointer (some ⟨g, 0, none⟩)] w (OpenE B S w g (openW D)) := by
  rw [openW_one hnm hpa]
  obtain ⟨q, hq⟩ : ∃ q, q = loadF [⟨na, era, n⟩] { lg0 with era := era } true D := ⟨_, rfl⟩
  rw [← hq]
  have HQ := Lib.hid hq
  clear hq
  have DN := Lib.hid (diskDownC h)
  rw [hd] at DN
  obtain ⟨w2, hw2⟩ : ∃ w2, w2 = w.alloc (.cells #[.pointer (some ⟨g, 0, none⟩), .int .u64 0, .slice none 0 0, .slice none 0 0, .int .u64 1, .bool false] TL) := ⟨_, rfl⟩
  have hb2 : Below w.heap.size w w2 := by rw [hw2]; exact (Below.refl _ _).alloc (Nat.le_refl _) _
  have hp2 : Blk w2 w.heap.size TL #[.pointer (some ⟨g, 0, none⟩), .int .u64 0, .slice none 0 0, .slice none 0 0, .int .u64 1, .bool false] := by rw [hw2]; exact Blk.new w _ TL
  have NM := Lib.hid (diskNamesC (h.below hb2) (Nat.le_trans hcnt (by decide)) hfn)
  rw [hnm] at NM
  have HD := Lib.hid h
  have HS := Lib.hid hS
  have HE := Lib.hid hE
  have HP := Lib.hid hp2
  have HB2 := Lib.hid hb2
  have HW2 := Lib.hid hw2
  have HP2 := Lib.hid hpa
  have HF1 := Lib.hid (And.intro hb (And.intro hok (And.intro hst hd)))
  have hsz2 : w2.heap.size = w.heap.size + 1 := by rw [hw2]; simp
  rw [hw2] at NM
  clear h hS hE hp2 hb2 hw2 hd hnm hpa hb hok hst hfn
  go_enter Tryz.func7, Tryz.ntmps7
  go_wp2_with (first
    | (go_at_call 20; refine DN.out.mono ?_; first | rintro e w1 ⟨rfl, rfl⟩ | rintro e w1 rfl rfl)
    | (go_at_call 21; refine NM.out.mono ?_))
  rw [← HW2.out]
  rintro e w3 ⟨A, cA, rfl, hoA, hb3⟩
  have hL3 : LX B S (· = w.heap.size) w3 w.heap.size g lg0 D [] [] none 0 none 0 := (LX.fresh (p := w.heap.size) (HD.out.below HB2.out) HP.out hB (fun hs => by have := HD.out.bnd _ hs; omega) HS.out).below hb3
  have hB3 := HB2.out.trans (hb3.mono HB2.out.size)
  have hs3 : w.heap.size ≤ w3.heap.size := hB3.size
  have hA := hoA.rv.cell (j := 0) (by simp)
  obtain ⟨xa, off, rfl, hbl2, hc⟩ := hA
  simp only [List.getElem_map, List.getElem_cons_zero, Nat.add_zero, encStr] at hc
  have HC := Lib.hid hc
  have HL3 := Lib.hid hL3
  have HB3 := Lib.hid hB3
  have HOA := Lib.hid hoA
  have hlt3 : w.heap.size < w3.heap.size := Nat.lt_of_lt_of_le (by omega) hb3.size
  clear NM hc hL3 hB3 hoA hb3 HP HB2 HW2 HD HS
  go_wp2_with fail
  go_loopw [5, 22] (fun s5 s22 wr => (s5 = .slice none 0 0 ∧ s22 = .int .i64 0 ∧ wr = w3) ∨ (s22 = .int .i64 1 ∧ ∃ xb cx, s5 = .slice (some ⟨xb, 0, none⟩) 1 cx ∧ Hid (OpAt B S w g na era n D xb wr))) (fun _ s22 _ => 1 - (intOf s22).toNat)
  case atStart => exact .inl ⟨rfl, rfl, by first | rfl | trivial⟩
  case round =>
    obtain ⟨rfl, rfl, rfl⟩ | ⟨rfl, xb, cx, rfl, HO⟩ := hrel
    · obtain ⟨i0, hi0, hz0, hz1, hz2⟩ := info_parts found_info
      have PA := Lib.hid (walParts na B wr hna (HE.out.below (HB3.out.mono hB)) (Nat.le_trans hB hs3))
      rw [HP2.out] at PA
      have hc := HC.out
      go_wp2_with (go_at_call 22; refine PA.out.mono ?_)
      rintro e w4 ⟨hb4, x, y, rfl, hxy⟩
      obtain ⟨rfl, rfl⟩ := hxy era n rfl
      have hL5 := Blk.new w4 #[.string ⟨na.toArray⟩, .int .u64 (era : Int), .int .u64 (n : Int)] TF
      have hb5 : Below w4.heap.size w4 (w4.alloc (.cells #[.string ⟨na.toArray⟩, .int .u64 (era : Int), .int .u64 (n : Int)] TF)) := (Below.refl _ _).alloc (Nat.le_refl _) _
      have HL5 := Lib.hid hL5
      have hs5 : B ≤ (w4.alloc (.cells #[.string ⟨na.toArray⟩, .int .u64 (era : Int), .int .u64 (n : Int)] TF)).heap.size := Nat.le_trans (Nat.le_trans hB hs3) (Nat.le_trans hb4.size hb5.size)
      have HL4 := Lib.hid ((HL3.out.below hb4).below hb5)
      have HB5 := Lib.hid (HB3.out.trans ((hb4.trans (hb5.mono hb4.size)).mono hs3))
      clear hL5 hb5 hxy PA hb4 hc HC HL3 HB3 HOA hbl2 hlt3 hs3
      go_wp2_with (at_builtin; refine wp_appendS _ rfl (.tmp 33) (.tmp 38) 57 TF rfl Tryz.underlying57 hi0 hz0 hz1 hz2 rfl (by decide) B none (some ⟨w4.heap.size, 0, none⟩) 0 1 [] [[.string ⟨na.toArray⟩, .int .u64 (era : Int), .int .u64 (n : Int)]] rfl rfl (OR.nil _ _ _ _) (RS.lit HL5.out) (by simp) (by simp [Value.oneCell']) (by simp) (by simp) hs5 ?_)
      intro ys A9 c9 w9 hys hy1 hy2 hrow hg9 hA9
      have hys' : ys = [[.string ⟨na.toArray⟩, .int .u64 (era : Int), .int .u64 (n : Int)]] := hys.out
      subst hys'
      obtain ⟨xb, o9, rfl, hlt9, hrs⟩ := hrow.rs.at_ (by simp)
      have ho9 : o9 = 0 := by
        rcases hrow.form with ⟨e, _, _⟩ | ⟨g', e, _⟩
        · cases e
        · injection e with e; injection e
      subst ho9
      have d0 : w9.cell? ⟨xb, 0, none⟩ = some (.string ⟨na.toArray⟩) := by simpa using hrs 0 _ rfl 0 _ rfl
      have d1 : w9.cell? ⟨xb, 1, none⟩ = some (.int .u64 (era : Int)) := by simpa using hrs 0 _ rfl 1 _ rfl
      have d2 : w9.cell? ⟨xb, 2, none⟩ = some (.int .u64 (n : Int)) := by simpa using hrs 0 _ rfl 2 _ rfl
      have hb9 : Below (w4.alloc (.cells #[.string ⟨na.toArray⟩, .int .u64 (era : Int), .int .u64 (n : Int)] TF)).heap.size (w4.alloc (.cells #[.string ⟨na.toArray⟩, .int .u64 (era : Int), .int .u64 (n : Int)] TF)) w9 := ⟨hg9.os, hg9.tape, hg9.output, hg9.size, fun i hi => hg9.block i hi (fun e => by cases e)⟩
      have HL9 := Lib.hid (HL4.out.below hb9)
      have hs9 := HB5.out.size
      have HB9 := Lib.hid (HB5.out.trans (hb9.mono hs9))
      have HD9 := Lib.hid (And.intro hlt9 (And.intro d0 (And.intro d1 d2)))
      have p1 : w9.cell? ⟨w.heap.size, 1, none⟩ = some (.int .u64 0) := HL9.out.blk.cell 1 rfl
      have r1 : w9.frozen? ⟨w.heap.size, 1, none⟩ = false := HL9.out.blk.free 1
      have hneb : xb ≠ w.heap.size := by
        intro e
        have := (hrow.blk xb rfl)
        obtain ⟨cs, hb⟩ := this
        exact (HL9.out.blk.ne (by exact hb) (by decide)) e.symm
      clear hys hy1 hy2 hrow hg9 hA9 hrs d0 d1 d2 hb9 HL4 HL5 HB5 hs5
      have mp : Mods (· = w.heap.size) w9 (w9.setCell ⟨w.heap.size, 1, none⟩ (.int .u64 (era : Int))) := (Mods.refl (· = w.heap.size) w9).setCell ⟨w.heap.size, _, none⟩ (.inl rfl) _
      have HO : Hid (OpAt B S w g na era n D xb (w9.setCell ⟨w.heap.size, 1, none⟩ (.int .u64 (era : Int)))) := Lib.hid ⟨HL9.out.set 1 _ rfl rfl rfl, Nat.lt_of_lt_of_le hlt9 mp.size, (mp.cell (p := ⟨xb, _, none⟩) hlt9 hneb).trans HD9.out.2.1, (mp.cell (p := ⟨xb, _, none⟩) hlt9 hneb).trans HD9.out.2.2.1, (mp.cell (p := ⟨xb, _, none⟩) hlt9 hneb).trans HD9.out.2.2.2, Mods.old HB9.out mp HB9.out.size (fun i _ e => by rw [e]; exact Nat.le_refl _)⟩
      clear HL9 HD9 HB9 mp hneb
      go_wp2_with fail
      go_roundw
      case rel => exact .inr ⟨by go_num, xb, c9, rfl, HO⟩
      case measure => simp [intOf]
    · have SO : Hid (∀ f w, Calls Tryz.prog 23 #[.slice (some ⟨xb, 0, none⟩) 1 cx, f] w fun e w' => e = .returned (.tuple #[]) ∧ w' = w) := Lib.hid (fun f w => sortOne (some ⟨xb, 0, none⟩) 1 cx f w (by omega))
      have hsr : w.heap.size ≤ wr.heap.size := HO.out.bel.size
      have LO := Lib.hid (walLoad1 HO.out.lx rfl rfl (Nat.le_trans hB hsr) hcnt ⟨na, era, n⟩ rfl hna he hn HF1.out.2.2.2 HF1.out.2.1 b HF1.out.1 hbl HF1.out.2.2.1 xb cx HO.out.lt HO.out.d0 HO.out.d1 HO.out.d2)
      have HBR := Lib.hid HO.out.bel
      rw [← HQ.out] at LO
      clear HL3 HB3 HC HOA HE HP2 HF1 HQ HO
      go_wp2_with (go_at_call 23; refine (SO.out _ _).mono ?_)
      first | rintro e w4 ⟨rfl, rfl⟩ | rintro e w4 rfl rfl
      clear SO
      go_wp2_with (go_at_call 26; refine LO.out.mono ?_)
      rintro e w5 ⟨rfl, S', F', hl, hs', hf', hm⟩
      have HF : Hid (OpenE B S w g q (.returned (.tuple #[if q.1 = 0 then .pointer (some ⟨w.heap.size, 0, none⟩) else .pointer none, .int .i64 q.1])) w5) := Lib.hid ⟨w.heap.size, S', F', rfl, hl, fun b hb => (hs' b hb).imp id (fun h => by omega), fun b hb => (hf' b hb).elim (fun e => by rw [e]; exact Nat.le_refl _) (fun h => by omega), (Mods.of_below HBR.out).trans hm (fun i hi => hi.elim .inl (fun e => .inr (by rw [e]; exact Nat.le_refl _)))⟩
      clear LO hl hs' hf' hm HBR
      by_cases hq0 : q.1 = 0
      · have hqb : (q.1 == 0) = true := by simpa using hq0
        rw [if_pos hq0] at HF
        go_wp2_with fail
        go_ret2
        rw [hq0] at HF
        exact HF.out
      · have hqb : (q.1 == 0) = false := by simpa using hq0
        rw [if_neg hq0] at HF
        go_wp2_with fail
        go_ret2
        exact HF.out
end
end Go.Proofs.YtjgonfnpfbifjaaGreatDoor
/- Plain: Append on a log of one segment that was opened anew. -/
namespace Go.Proofs.YtjgonfnpfbifjaaGreatDoor
open Go.Lib

theorem nameOk_wal {e n : Nat} (h : (decDigits e).length + (decDigits n).length ≤ 28) : nameOk (walName e n) = true := by
  unfold nameOk walName
  rw [Bool.and_eq_true, decide_eq_true_eq, List.all_eq_true]
  refine ⟨by simp only [List.length_append, List.length_cons, List.length_nil]; omega, fun c hc => ?_⟩
  simp only [List.append_assoc, List.mem_append, List.mem_cons, List.not_mem_nil, or_false] at hc
  rcases hc with (rfl | rfl) | hc | rfl | hc
  · decide
  · decide
  · exact set_of_range (.inr (dec_range e c hc))
  · decide
  · exact set_of_range (.inr (dec_range n c hc))
theorem recsB_len2 : ∀ (L : List (List UInt8)) (n : Nat), (recsB n L).length ≤ (L.map List.length).sum + 17 * L.length
  | [], n => by simp [recsB]
  | r :: t, n => by
    have h1 := recB_len n r
    have h2 := recsB_len2 t (n + 1)
    rw [recsB, List.length_append]
    simp only [List.map_cons, List.sum_cons, List.length_cons]
    omega
theorem refuse_room {D : DSt} {f : Nm} {x : List UInt8} {off : Nat} (hd : D.down = false) (hn : nameOk f = true) (ho : off ≤ 4194304) (hl : D.files.length < 4096)
    (hr : (fsize D.files : Int) + ((max ((fget D.files f).getD []).length (off + x.length) : Nat) - ((fget D.files f).getD []).length : Int) ≤ D.room) : refuseD D ⟨1, f, off, x⟩ (off : Int) = 0 := by
  unfold refuseD
  rw [if_neg (by rw [hd]; simp), if_neg (by rw [hn]; simp; omega), if_neg (by omega), if_neg]
  simp only [afterN, ↓reduceIte]
  rintro ⟨_, h2⟩
  omega
theorem putW_idle {D : DSt} {f : Nm} {x : List UInt8} {off : Nat} (hd : D.down = false) (hf : D.fuse = 0) (hr : refuseD D ⟨1, f, off, x⟩ (off : Int) = 0) : putW D f off x = (0, { D with unsure := D.unsure ++ [⟨1, f, off, x⟩] }) := by
  have hb : burnD D = D := by unfold burnD; rw [if_neg (by omega)]
  unfold putW changeD
  rw [if_neg (by rw [hr]; simp), hb, if_neg (by rw [hd]; simp)]
theorem lgB_stop (x : List (List UInt8)) : Sg.stop ⟨walName 0 1, 1, 0 :: marksB 0 1 x⟩ = (recsB 1 x).length := by
  have := marksB_last x 0 1
  unfold Sg.stop
  rw [this]; omega
/-- What Append comes to on such a log. -/
theorem appendW_C (r : Int) (x y : List (List UInt8)) (hy : ∀ z ∈ y, z.length ≤ 65520) (hs : ((recsB 1 x).length : Int) + (recsB (1 + x.length) y).length ≤ r) (hr : r ≤ 4194304) (hx : x.length ≤ 1000) :
    (appendW (lgB x) (dskB r (recsB 1 x)) y).1 = 0 ∧ (appendW (lgB x) (dskB r (recsB 1 x)) y).2.1.recs = x ++ y ∧ (appendW (lgB x) (dskB r (recsB 1 x)) y).2.1.first = 1 ∧ (appendW (lgB x) (dskB r (recsB 1 x)) y).2.1.down = false := by
  by_cases hyn : y = []
  · subst hyn
    unfold appendW
    rw [if_neg (by simp [lgB]), if_neg (by simp), if_pos rfl]
    exact ⟨rfl, by simp [lgB], rfl, rfl⟩
  · have hany : ¬ (y.any fun r => decide (65520 < r.length)) = true := by
      rw [List.any_eq_true]
      rintro ⟨z, hz, h2⟩
      have := hy z hz
      simp at h2; omega
    have hnx : (lgB x).next = 1 + x.length := rfl
    have hto : ((lgB x).to.name = walName 0 1 ∧ (lgB x).to.stop = (recsB 1 x).length) ∨ ((lgB x).to.name = walName 0 (1 + x.length) ∧ (lgB x).to.stop = 0) := by
      unfold Lg.to
      simp only [lgB, List.getLast?_singleton]
      split
      · exact .inl ⟨rfl, lgB_stop x⟩
      · exact .inr ⟨rfl, rfl⟩
    have hfs : fsize (dskB r (recsB 1 x)).files = (recsB 1 x).length := by simp [dskB, DSt.files, fsize]
    have hfl : (dskB r (recsB 1 x)).files.length < 4096 := by simp [dskB, DSt.files]
    have hok : nameOk (walName 0 (1 + x.length)) = true := by
      refine nameOk_wal ?_
      have h2 := nDigits_le (u := 1 + x.length) (by omega)
      have h3 : (decDigits 0).length = 1 := by rw [decDigits]; simp
      rw [h3, decDigits_length]
      omega
    have hp : refuseD (dskB r (recsB 1 x)) ⟨1, (lgB x).to.name, (lgB x).to.stop, recsB (lgB x).next y⟩ ((lgB x).to.stop : Int) = 0 := by
      have hroom : (dskB r (recsB 1 x)).room = r := rfl
      rcases hto with ⟨h1, h2⟩ | ⟨h1, h2⟩
      · rw [h1, h2, hnx]
        refine refuse_room rfl nameOk_one (by omega) hfl ?_
        rw [hfs, fgetB, hroom]
        simp only [Option.getD_some]
        omega
      · rw [h1, h2, hnx]
        refine refuse_room rfl hok (by omega) hfl ?_
        rw [hfs, hroom]
        omega
    have hpw := putW_idle (D := dskB r (recsB 1 x)) rfl rfl hp
    unfold appendW
    rw [if_neg (by simp [lgB]), if_neg hany, if_neg hyn, if_neg (by rw [hpw]; simp)]
    exact ⟨rfl, rfl, rfl, rfl⟩
/-- A row of records that were read back is fine. -/
theorem lgB_fine (x : List (List UInt8)) (h : ∀ z ∈ x, z.length ≤ 65520) (hx : x.length ≤ 1000) : (lgB x).fine := by
  have hml : ∀ (L : List (List UInt8)) (i n : Nat), (marksB i n L).length = L.length := by
    intro L
    induction L with
    | nil => intro i n; rfl
    | cons a t ih => intro i n; rw [marksB, List.length_cons, ih, List.length_cons]
  refine ⟨fun s hs => ?_, ?_, by show (0 : Nat) ≤ _; omega, by show (1 : Nat) ≤ _; omega, by show x.length ≤ _; omega, fun z hz => by have := h z hz; omega⟩
  · have : s = ⟨walName 0 1, 1, 0 :: marksB 0 1 x⟩ := by simpa [lgB] using hs
    subst this
    refine ⟨?_, by simp only [List.length_cons, hml]; omega, by show (walName 0 1).length ≤ 1000; rw [walName_one]; decide, by show (1 : Nat) ≤ _; omega⟩
    rw [lgB_stop]
    have := recsB_len x 1 h
    omega
  · show 1 + x.length ≤ _; omega
end Go.Proofs.YtjgonfnpfbifjaaGreatDoor
/- WalT: put together by merge.py of: WalJ, WalK. -/
/- The law's whole: copies of rows. -/
namespace Go.Proofs.YtjgonfnpfbifjaaGreatDoor
open Go.RowKit

/-- Rows of bytes, all of the call's own. -/
structure RowsB (w : World) (B : Nat) (A : Option Addr) (c : Nat) (Y : List (List UInt8 × Option Addr × Nat)) : Prop where
  rv : OV w B TB A c (Y.map recV)
  rc : ∀ y ∈ Y, OB w B y.2.1 y.2.2 y.1
section
variable {B c : Nat} {T : Nat → Prop} {w w' : World} {A : Option Addr} {Y : List (List UInt8 × Option Addr × Nat)}
theorem RowsB.below (h : RowsB w B A c Y) (hb : Below w.heap.size w w') : RowsB w' B A c Y := ⟨h.rv.below hb, fun y hy => (h.rc y hy).below hb⟩
theorem RowsB.add {A' : Option Addr} {c' : Nat} {y : List UInt8 × Option Addr × Nat} (h : RowsB w B A c Y) (ho : OB w B y.2.1 y.2.2 y.1) (hg : w.grownBy w' (A.map (·.block))) (hr : OV w' B TB A' c' (Y.map recV ++ [recV y])) : RowsB w' B A' c' (Y ++ [y]) := by
  have m : Mods (fun k => A.map (·.block) = some k) w w' := Mods.of_grown hg (fun k e => e)
  have ne : ∀ (x : List UInt8 × Option Addr × Nat), OB w B x.2.1 x.2.2 x.1 → OB w' B x.2.1 x.2.2 x.1 := fun x hx => hx.mods m (fun k hk e => by
    obtain ⟨cs, hb⟩ := hx.blk k hk
    exact h.rv.ne_blk hb (by decide) e)
  refine ⟨by rw [List.map_append]; exact hr, fun x hx => ?_⟩
  rcases List.mem_append.1 hx with hx | hx
  · exact ne x (h.rc x hx)
  · rw [List.mem_singleton.1 hx]; exact ne y ho
/-- Such rows, handed to Append. -/
theorem RowsB.rl (h : RowsB w B A c Y) (hT : ∀ b, T b → b < B) (hl : ∀ y ∈ Y, y.1.length ≤ 140737488355328) : RL T w A (Y.map fun y => (y.2.1, y.2.2, y.1)) := by
  refine ⟨⟨?_, fun t ht => ?_⟩, fun _ b hb ht => ?_, fun t ht _ b hb h2 => ?_⟩
  · rw [List.map_map]; exact h.rv.rv
  · obtain ⟨y, hy, rfl⟩ := List.mem_map.1 ht
    exact ⟨(h.rc y hy).rb, hl y hy⟩
  · have := (h.rv.blk_lt b hb).1
    have := hT b ht
    omega
  · obtain ⟨y, hy, rfl⟩ := List.mem_map.1 ht
    have := ((h.rc y hy).blk_in b hb).1
    have := hT b h2
    omega
theorem tb_info2 : (Tryz.prog.info? 33).map (fun i => (i.zero, i.size, i.bytes)) = some (some (.slice none 0 0), 1, 24) := by kernel_rfl
/-- What whole ends in. -/
def WholeE (B : Nat) (w : World) (L : List (List UInt8)) (e : Ending) (w' : World) : Prop :=
  ∃ A c Y, e = .returned (.tuple #[.slice A Y.length c, .bool (L.all fun r => decide (r.length ≤ 65520))]) ∧ Y.map Prod.fst = L ∧ RowsB w' B A c Y ∧ Below w.heap.size w w'
set_option maxRecDepth 20000 in
set_option maxHeartbeats 4000000 in
theorem lawWhole (X : Option Addr) (cx : Nat) (L : List (Option Addr × Nat × List UInt8)) (hX : RBB w X L) (hL : L.length ≤ 5864062014700) :
    Calls Tryz.prog 8 #[.slice X L.length cx] w (WholeE w.heap.size w (L.map (·.2.2))) := by
  have HX := Lib.hid hX
  clear hX
  go_enter Tryz.func8, Tryz.ntmps8
  go_wp2_with fail
  go_loopw [4, 5, 6] (fun s4 s5 s6 wr => ∃ (k : Nat) (A : Option Addr) (c : Nat) (Y : List (List UInt8 × Option Addr × Nat)), k ≤ L.length ∧ s6 = .int .i64 (k : Int) ∧ s4 = .slice A Y.length c ∧ s5 = .bool (((L.take k).map (·.2.2)).all fun r => decide (r.length ≤ 65520)) ∧
    Hid (Y.map Prod.fst = (L.take k).map (·.2.2)) ∧ Hid (RowsB wr w.heap.size A c Y) ∧ Hid (Below w.heap.size w wr)) (fun _ _ s6 _ => L.length - (intOf s6).toNat)
  case atStart => exact ⟨0, none, 0, [], Nat.zero_le _, rfl, rfl, rfl, Lib.hid rfl, Lib.hid ⟨OV.nil _ _ _, by simp⟩, Lib.hid (Below.refl _ _)⟩
  case round =>
    obtain ⟨k, A, c, Y, hk, rfl, rfl, rfl, HY, HR, HB⟩ := hrel
    by_cases hlt : k < L.length
    · have hki : (k : Int) < (L.length : Int) := by omega
      have hki0 : (0 : Int) ≤ (k : Int) := by omega
      have hxr := HX.out.below HB.out
      obtain ⟨xb, off, rfl, hbl, hc⟩ := hxr.cell hlt
      have hrb := hxr.each L[k] (List.getElem_mem hlt)
      have hw1 : IntKind.i64.wrap ((k : Int) + 1) = ((k + 1 : Nat) : Int) := by rw [IntWalk.i64_in _ (by omega)]; omega
      obtain ⟨⟨A0, c0, r⟩, hy⟩ : ∃ y, y = L[k] := ⟨_, rfl⟩
      rw [← hy] at hc hrb
      simp only at hc hrb
      have HRB := Lib.hid hrb.1
      have hrl := hrb.2
      obtain ⟨ok, hok⟩ : ∃ ok, ok = (((L.take k).map (·.2.2)).all fun r => decide (r.length ≤ 65520)) := ⟨_, rfl⟩
      have htk : (L.take (k + 1)).map (·.2.2) = (L.take k).map (·.2.2) ++ [r] := by
        rw [List.take_succ_eq_append_getElem hlt, List.map_append, ← hy]; rfl
      have HOK : Hid ((((L.take (k + 1)).map (·.2.2)).all fun r => decide (r.length ≤ 65520)) = (ok && decide (r.length ≤ 65520))) := Lib.hid (by
        rw [htk, List.all_append, ← hok]; simp)
      have HYN : Hid ((L.take (k + 1)).map (·.2.2) = Y.map Prod.fst ++ [r]) := Lib.hid (by rw [htk, HY.out])
      rw [← hok]
      clear hy hrb hxr hok htk HY
      go_upto_region 6 with fail
      go_cut [5] (fun s5 wx => s5 = .bool (ok && decide (r.length ≤ 65520)) ∧ wx = wr)
      case first =>
        cases ok
        · go_wp2_with fail
          go_meet
          exact ⟨rfl, by first | rfl | trivial⟩
        · by_cases hr : r.length ≤ 65520
          · have hrI : (r.length : Int) ≤ 65520 := by omega
            have HDR := Lib.hid (show decide (r.length ≤ 65520) = true by simpa using hr)
            go_wp2_with fail
            go_meet
            exact ⟨by rw [HDR.out]; first | done | rfl, by first | rfl | trivial⟩
          · have hrI : ¬ (r.length : Int) ≤ 65520 := by omega
            have HDR := Lib.hid (show decide (r.length ≤ 65520) = false by simpa using hr)
            go_wp2_with fail
            go_meet
            exact ⟨by rw [HDR.out]; first | done | rfl, by first | rfl | trivial⟩
      case rest =>
        obtain ⟨rfl, rfl⟩ := hcut
        rw [← HOK.out]
        obtain ⟨i0, hi0, hz0, hz1, hz2⟩ := info_parts tb_info2
        have hws : w.heap.size ≤ wc.heap.size := HB.out.size
        have ha0 : Below wc.heap.size wc (wc.alloc (.cells #[] 5)) := (Below.refl _ _).alloc (Nat.le_refl _) _
        have HE0 := Lib.hid (OB.made0 (base := w.heap.size) wc hws)
        have HR0 := Lib.hid (HRB.out.below ha0)
        have HA0 := Lib.hid ha0
        have hs0 : w.heap.size ≤ (wc.alloc (.cells #[] 5)).heap.size := Nat.le_trans hws ha0.size
        obtain ⟨xs, hxs⟩ : ∃ xs, xs = Y.map recV := ⟨_, rfl⟩
        have hxl : Y.length = xs.length := by rw [hxs, List.length_map]
        have hxk : xs.length ≤ 5864062014700 := by
          have e := congrArg List.length HYN.out
          rw [List.length_map, List.length_take, List.length_append, List.length_map] at e
          simp only [List.length_cons, List.length_nil] at e
          omega
        have HXS := Lib.hid hxs
        rw [hxl]
        clear hxs ha0
        go_wp2_with (first
          | (at_builtin; refine wp_appendB _ rfl (.tmp 23) (.tmp 27) rfl w.heap.size _ _ _ _ [] r rfl rfl HE0.out HR0.out (by simp only [List.length_nil]; omega) hs0 ?_; intro d A1 c1 w5 hd hd1 hd2 ho5 hg5; have hb5 : Below wc.heap.size wc w5 := ⟨hg5.os.trans HA0.out.os, hg5.tape.trans HA0.out.tape, hg5.output.trans HA0.out.output, Nat.le_trans HA0.out.size hg5.size, fun i hi => (hg5.block i (Nat.lt_of_lt_of_le hi HA0.out.size) (fun e => by simp [Value.ownBlock] at e; omega)).trans (HA0.out.block i hi)⟩; have HB5 := Lib.hid hb5; have HD := Lib.hid hd.out; have ha6 : Below w5.heap.size w5 (w5.alloc (.cells #[.slice A1 d.length c1] TB)) := (Below.refl _ _).alloc (Nat.le_refl _) _; have HO6 := Lib.hid (ho5.below ha6); have HB6 := Lib.hid (hb5.trans (ha6.mono hb5.size)); have HL6 := Lib.hid ((Blk.new w5 #[.slice A1 d.length c1] TB).cell (j := 0) (v := .slice A1 d.length c1) rfl); have HR6 := Lib.hid (HR.out.below HB6.out); have HSV := HR6.out.rv; rw [← HXS.out] at HSV; have HSV2 := Lib.hid HSV; have hs6 : w.heap.size ≤ (w5.alloc (.cells #[.slice A1 d.length c1] TB)).heap.size := Nat.le_trans hws HB6.out.size; clear hd ho5 hg5 hb5 ha6 HSV HE0 HR0)
          | (at_builtin; go_loud (refine wp_appendK _ rfl (.tmp 22) (.tmp 29) 22 TB rfl Tryz.underlying22 hi0 hz0 hz1 hz2 rfl w.heap.size A c 1 w5.heap.size xs (.slice A1 d.length c1) rfl rfl HSV2.out HL6.out rfl (by omega) (by omega) hs6 ?_)))
        intro ys m g8 c8 w8 hys hm8 ho8 hk8 hg8 hat8
        have HR8 : Hid (RowsB w8 w.heap.size (some ⟨g8, 0, none⟩) c8 (Y ++ [(d, A1, c1)])) := Lib.hid (HR6.out.add HO6.out hg8 (by rw [← HXS.out]; exact ho8))
        have HB8 : Hid (Below w.heap.size w w8) := Lib.hid (Mods.old (HB.out.trans (HB6.out.mono HB.out.size)) (Mods.of_grown (S := fun x => A.map (·.block) = some x) hg8 (fun _ h => h)) hs6 (fun i _ h => (HR6.out.rv.blk_lt i h).1))
        have HY8 : Hid ((Y ++ [(d, A1, c1)]).map Prod.fst = (L.take (k + 1)).map (·.2.2)) := Lib.hid (by rw [HYN.out, List.map_append, HD.out]; rfl)
        have hm9 : m = (Y ++ [(d, A1, c1)]).length := by rw [hm8, List.length_append, hxl]; rfl
        subst hm9
        clear hys hk8 ho8 hg8 hat8 HR6 HO6 HB6 HL6 HSV2 HXS HD HYN HR HB HB5 HA0 HOK hm8
        go_wp2_with fail
        go_roundw
        case rel => exact ⟨k + 1, _, _, _, by omega, by go_num, rfl, by rw [List.map_take], HY8, HR8, HB8⟩
        case measure => simp [intOf]; omega
    · obtain rfl : k = L.length := by omega
      have HF : Hid (WholeE w.heap.size w (L.map (·.2.2)) (.returned (.tuple #[.slice A Y.length c, .bool ((L.map (·.2.2)).all fun r => decide (r.length ≤ 65520))])) wr) := Lib.hid (by
        have h := HY.out
        rw [List.take_length] at h
        exact ⟨A, c, Y, rfl, h, HR.out, HB.out⟩)
      rw [List.take_length]
      generalize ((L.map (·.2.2)).all fun r => decide (r.length ≤ 65520)) = ok at *
      clear HX HY HR HB
      go_wp2_with fail
      go_ret2
      exact HF.out
end
end Go.Proofs.YtjgonfnpfbifjaaGreatDoor
/- The law's alike: a log and a model that hold the same. -/
namespace Go.Proofs.YtjgonfnpfbifjaaGreatDoor
open Go.RowKit

abbrev TM5 : TypeId := 40
section
variable {B p g sc rc mb : Nat} {S F : Nat → Prop} {w w' : World} {l : Lg} {D : DSt} {Z : List (Sg × Pl)} {Y : List (List UInt8 × Option Addr × Nat)} {SA RA : Option Addr}
theorem lawNext (f n c : Nat) (X : Option Addr) (su : Value) (hb : Blk w mb TM5 #[.int .u64 (f : Int), .slice X n c, su]) (hf : f + n < 9223372036854775808) :
    Calls Tryz.prog 38 #[.pointer (some ⟨mb, 0, none⟩)] w fun e w' => e = .returned (.int .u64 ((f + n : Nat) : Int)) ∧ ∃ m, w' = w.drewN m := by
  have c0 := hb.cell 0 rfl
  have c1 := hb.cell 1 rfl
  have hw2 : IntKind.u64.wrap (n : Int) = (n : Int) := IntWalk.u64_in _ (by omega)
  have hw3 : IntKind.u64.wrap ((f : Int) + (n : Int)) = ((f + n : Nat) : Int) := by rw [IntWalk.u64_in _ (by omega)]; omega
  clear hb
  go_enter Tryz.func38, Tryz.ntmps38
  go_wp2_with fail
  go_quiet (fail)
  go_wp2_with fail
  go_ret
  exact ⟨rfl, _, rfl⟩
set_option maxRecDepth 20000 in
set_option maxHeartbeats 4000000 in
theorem lawAlike (h : LX B S F w p g l D Z Y SA sc RA rc) (hd : l.down = false) (X : Option Addr) (cx : Nat) (L : List (Option Addr × Nat × List UInt8)) (su : Value) (hb : Blk w mb TM5 #[.int .u64 (l.first : Int), .slice X L.length cx, su]) (hX : RBB w X L) (hL : L.map (·.2.2) = l.recs) (h1 : 1 ≤ l.first)
    (hn : l.next < 9223372036854775808) (hr : ∀ r ∈ l.recs, r.length ≤ 100000) :
    Calls Tryz.prog 13 #[.pointer (some ⟨p, 0, none⟩), .pointer (some ⟨mb, 0, none⟩)] w fun e w' => e = .returned (.bool true) ∧ Below w.heap.size w w' := by
  have hll : L.length = l.recs.length := by rw [← hL, List.length_map]
  have hnx0 : l.next = l.first + L.length := by rw [hll]; rfl
  obtain ⟨nx, hnx⟩ : ∃ nx, nx = l.first + L.length := ⟨_, rfl⟩
  obtain ⟨ff, hff⟩ : ∃ ff, ff = l.first := ⟨_, rfl⟩
  have HX := Lib.hid h
  have HM := Lib.hid hb
  have HXX := Lib.hid hX
  have HL := Lib.hid hL
  have HD := Lib.hid hd
  have HR := Lib.hid hr
  have FI : Hid (∀ v, Below w.heap.size w v → Calls Tryz.prog 16 #[.pointer (some ⟨p, 0, none⟩)] v fun e w' => e = .returned (.int .u64 (ff : Int)) ∧ v = w') := Lib.hid (fun v hv => by rw [hff]; exact walFirst (h.blk.kept hv) l.first rfl)
  have NX : Hid (∀ v, Below w.heap.size w v → Calls Tryz.prog 14 #[.pointer (some ⟨p, 0, none⟩)] v fun e w' => e = .returned (.int .u64 (nx : Int)) ∧ ∃ m, w' = v.drewN m) := Lib.hid (fun v hv => by
    rw [hnx, hll]; exact walNext (h.blk.kept hv) l.first l.recs.length rc RA rfl rfl hn)
  have MX : Hid (∀ v, Below w.heap.size w v → Calls Tryz.prog 38 #[.pointer (some ⟨mb, 0, none⟩)] v fun e w' => e = .returned (.int .u64 (nx : Int)) ∧ ∃ m, w' = v.drewN m) := Lib.hid (fun v hv => by rw [hnx]; exact lawNext l.first L.length cx X su (hb.kept hv) (by omega))
  have hg1 : ¬ (nx : Int) < (ff : Int) := by omega
  have hg3 : ¬ nx < ff := by omega
  have c0 : w.cell? ⟨mb, 0, none⟩ = some (.int .u64 (ff : Int)) := by rw [hff]; exact hb.cell 0 rfl
  have HN := Lib.hid (And.intro hnx (And.intro hff (And.intro hll hnx0)))
  clear h hb hX hL hd hr hnx hff hll hnx0
  go_enter Tryz.func13, Tryz.ntmps13
  go_wp2_with fail
  go_quiet (first
    | (go_at_call 16; exact Calls.quiet_of ((FI.out _ (belowDrewN (Below.refl _ _) _)).mono (fun e w' h => ⟨h.1, 0, h.2.symm⟩)))
    | (go_at_call 14; exact Calls.quiet_of (NX.out _ (belowDrewN (Below.refl _ _) _)))
    | (go_at_call 38; exact Calls.quiet_of (MX.out _ (belowDrewN (Below.refl _ _) _))))
  have RDX : Hid (∀ v, Below w.heap.size w v → ∀ i : Nat, i < 18446744073709551616 → Calls Tryz.prog 18 #[.pointer (some ⟨p, 0, none⟩), .int .u64 (i : Int)] v (WReadEnd (readW l i).1 (readW l i).2 v)) := Lib.hid (fun v hv i hi => walRead (HX.out.below hv) i hi hn HR.out)
  have hnb : nx < 9223372036854775808 := by have h1 := HN.out.1; have h2 := HN.out.2.1; have h3 := HN.out.2.2.2; omega
  have hfn : ff ≤ nx := by have h1 := HN.out.1; have h2 := HN.out.2.1; omega
  have hf1 : 1 ≤ ff := by have h2 := HN.out.2.1; omega
  have c1 : w.cell? ⟨mb, 1, none⟩ = some (.slice X L.length cx) := HM.out.cell 1 rfl
  have HC := Lib.hid (And.intro c0 c1)
  have HB0 := Lib.hid (belowDrewN (Below.refl w.heap.size w) nq)
  clear c0 c1 hg1 hg3 h1 hn
  generalize w.drewN nq = w1 at *
  go_wp2_with (go_at_call 16; refine (FI.out _ HB0.out).mono ?_)
  first | rintro e w2 ⟨rfl, rfl⟩ | rintro e w2 rfl rfl
  go_wp2_with fail
  go_loopw [5] (fun s5 wr => ∃ i : Nat, ff ≤ i ∧ i ≤ nx ∧ s5 = .int .u64 (i : Int) ∧ Hid (Below w.heap.size w wr)) (fun s5 _ => nx - (intOf s5).toNat)
  case atStart => exact ⟨ff, Nat.le_refl _, hfn, rfl, HB0⟩
  case round =>
    obtain ⟨i, hi1, hi2, rfl, HBR⟩ := hrel
    go_wp2_with (go_at_call 14; refine (NX.out _ HBR.out).mono ?_)
    first | rintro e w2 rfl m2 rfl | rintro e w2 ⟨rfl, m2, rfl⟩
    have HB2 := Lib.hid (belowDrewN HBR.out m2)
    generalize wr.drewN m2 = w2 at *
    by_cases hlt : i < nx
    · have hltI : (i : Int) < (nx : Int) := by omega
      obtain ⟨j, hj⟩ : ∃ j, j = i - ff := ⟨_, rfl⟩
      have hjl : j < L.length := by have h1 := HN.out.1; have h2 := HN.out.2.1; omega
      have hrd : readW l i = (L[j].2.2, 0) := by
        have h2 := HN.out.2.1
        have h3 := HN.out.2.2.2
        have h4 := HN.out.1
        unfold readW
        rw [if_neg (by rw [HD.out]; simp), if_neg (by omega), if_neg (by omega)]
        congr 1
        have e : i - l.first = j := by omega
        rw [e, ← HL.out]
        simp [hjl]
      have RD := Lib.hid (by have := RDX.out _ HB2.out i (by omega); rw [hrd] at this; exact this)
      have hjI : (j : Int) < (L.length : Int) := by omega
      have hjI0 : (0 : Int) ≤ (j : Int) := by omega
      have hw : IntKind.u64.wrap ((i : Int) - (ff : Int)) = (j : Int) := by rw [IntWalk.u64_in _ (by omega)]; omega
      have hw1 : IntKind.u64.wrap ((i : Int) + 1) = ((i + 1 : Nat) : Int) := by rw [IntWalk.u64_in _ (by omega)]; omega
      clear hrd hj
      go_wp2_with (go_at_call 18; refine RD.out.mono ?_)
      rintro e w3 ⟨A, c, n, rfl, rfl, ho, hb3⟩
      have HB3 := Lib.hid (HB2.out.trans (hb3.mono HB2.out.size))
      obtain ⟨xb, off, rfl, hbl, hc⟩ := (HXX.out.below HB3.out).cell hjl
      have hrb := ((HXX.out.below HB3.out).each L[j] (List.getElem_mem hjl)).1
      have c0 : w3.cell? ⟨mb, 0, none⟩ = some (.int .u64 (ff : Int)) := (HB3.out.cell (p := ⟨mb, _, none⟩) HM.out.lt).trans HC.out.1
      have c1 : w3.cell? ⟨mb, 1, none⟩ = some (.slice (some ⟨xb, off, none⟩) L.length cx) := (HB3.out.cell (p := ⟨mb, _, none⟩) HM.out.lt).trans HC.out.2
      generalize L[j] = y at *
      obtain ⟨A0, c0', r⟩ := y
      simp only at hc hrb ho
      have k1 : ∀ n, (convert 33 9 (.slice A r.length c)).run Tryz.prog (w3.drewN n) = .ok (.string ⟨r.toArray⟩) (w3.drewN n) := fun n => convB c (ho.rb.below (belowDrewN (Below.refl _ _) n))
      have k2 : ∀ n, (convert 33 9 (.slice A0 r.length c0')).run Tryz.prog (w3.drewN n) = .ok (.string ⟨r.toArray⟩) (w3.drewN n) := fun n => convB c0' (hrb.below (belowDrewN (Below.refl _ _) n))
      clear ho hb3 hrb RD HBR HB2
      go_wp2_with fail
      go_quiet (fail)
      go_wp2_with fail
      go_roundw
      case rel => exact ⟨i + 1, by omega, by omega, by go_num, Lib.hid (belowDrewN HB3.out _)⟩
      case measure => simp [intOf]; omega
    · obtain rfl : i = nx := by omega
      have hltI : ¬ (i : Int) < (i : Int) := by omega
      have hr1 : readW l i = ([], 8) := by
        have h2 := HN.out.2.1
        have h3 := HN.out.2.2.2
        have h4 := HN.out.1
        unfold readW
        rw [if_neg (by rw [HD.out]; simp), if_neg (by omega), if_pos (by omega)]
      have hr2 : readW l (ff - 1) = ([], 13) := by
        have h2 := HN.out.2.1
        unfold readW
        rw [if_neg (by rw [HD.out]; simp), if_pos (by omega)]
      have R1 : Hid (∀ v, Below w.heap.size w v → Calls Tryz.prog 18 #[.pointer (some ⟨p, 0, none⟩), .int .u64 (i : Int)] v (WReadEnd [] 8 v)) := Lib.hid (fun v hv => by have := RDX.out v hv i (by omega); rw [hr1] at this; exact this)
      have R2 : Hid (∀ v, Below w.heap.size w v → Calls Tryz.prog 18 #[.pointer (some ⟨p, 0, none⟩), .int .u64 ((ff - 1 : Nat) : Int)] v (WReadEnd [] 13 v)) := Lib.hid (fun v hv => by have := RDX.out v hv (ff - 1) (by omega); rw [hr2] at this; exact this)
      obtain ⟨fm, hfm⟩ : ∃ fm, fm = ff - 1 := ⟨_, rfl⟩
      rw [← hfm] at R2
      have hw : IntKind.u64.wrap ((ff : Int) - 1) = (fm : Int) := by rw [IntWalk.u64_in _ (by omega)]; omega
      clear hr1 hr2 hfm RDX
      go_wp2_with (go_at_call 14; refine (NX.out _ HB2.out).mono ?_)
      first | rintro e w3 rfl m3 rfl | rintro e w3 ⟨rfl, m3, rfl⟩
      have HB3 := Lib.hid (belowDrewN HB2.out m3)
      generalize w2.drewN m3 = w3 at *
      go_wp2_with (go_at_call 18; refine (R1.out _ HB3.out).mono ?_)
      rintro e w4 ⟨A, c, n, rfl, rfl, ho, hb4⟩
      have HB4 := Lib.hid (HB3.out.trans (hb4.mono HB3.out.size))
      clear ho hb4
      go_wp2_with (go_at_call 16; refine (FI.out _ HB4.out).mono ?_)
      first | rintro e w5 ⟨rfl, rfl⟩ | rintro e w5 rfl rfl
      go_wp2_with (go_at_call 18; refine (R2.out _ HB4.out).mono ?_)
      rintro e w6 ⟨A2, c2, n2, rfl, rfl, ho2, hb6⟩
      have HB6 := Lib.hid (HB4.out.trans (hb6.mono HB4.out.size))
      clear ho2 hb6
      go_wp2_with fail
      go_ret
      exact ⟨rfl, HB6.out⟩
end
end Go.Proofs.YtjgonfnpfbifjaaGreatDoor
/- The walk of WalBack. -/
namespace Go.Proofs.YtjgonfnpfbifjaaGreatDoor
open Go.RowKit

section
variable {B c : Nat} {T T0 U : Nat → Prop} {w w' : World} {A X : Option Addr} {L : List (Option Addr × Nat × List UInt8)}
/-- Rows of the call's own, told as they are handed to Append. -/
structure RowsL (w : World) (B : Nat) (A : Option Addr) (c : Nat) (L : List (Option Addr × Nat × List UInt8)) : Prop where
  rv : OV w B TB A c (L.map fun t => .slice t.1 t.2.2.length t.2.1)
  rc : ∀ t ∈ L, OB w B t.1 t.2.1 t.2.2 ∧ t.2.2.length ≤ 140737488355328
theorem RowsL.below (h : RowsL w B A c L) (hb : Below w.heap.size w w') : RowsL w' B A c L := ⟨h.rv.below hb, fun y hy => ⟨(h.rc y hy).1.below hb, (h.rc y hy).2⟩⟩
theorem RowsL.rl (h : RowsL w B A c L) (hT : ∀ b, T b → b < B ∨ w.heap.size ≤ b) : RL T w A L := by
  refine ⟨⟨h.rv.rv, fun t ht => ⟨(h.rc t ht).1.rb, (h.rc t ht).2⟩⟩, fun _ b hb ht => ?_, fun t ht _ b hb h2 => ?_⟩
  · have := h.rv.blk_lt b hb
    have := hT b ht
    omega
  · have := (h.rc t ht).1.blk_in b hb
    have := hT b h2
    omega
theorem RL.weak (h : RL T0 w X L) (hT : ∀ b, T b → T0 b) : RL T w X L := ⟨h.rbb, fun h0 b hb ht => h.row h0 b hb (hT b ht), fun t ht h0 b hb h2 => h.rcs t ht h0 b hb (hT b h2)⟩
theorem rbb_mods (h : RBB w X L) (m : Mods U w w') (h1 : 0 < L.length → ∀ b, X.map (·.block) = some b → ¬ U b) (h2 : ∀ t ∈ L, 0 < t.2.2.length → ∀ b, t.1.map (·.block) = some b → ¬ U b) : RBB w' X L :=
  ⟨h.reads.mods m (fun h0 => h1 (by simpa using h0)), fun t ht => ⟨(h.each t ht).1.mods m (h2 t ht), (h.each t ht).2⟩⟩
theorem lawWholeL (X : Option Addr) (cx : Nat) (L : List (Option Addr × Nat × List UInt8)) (hX : RBB w X L) (hL : L.length ≤ 5864062014700) :
    Calls Tryz.prog 8 #[.slice X L.length cx] w fun e w' => ∃ A c M, e = .returned (.tuple #[.slice A M.length c, .bool ((L.map (·.2.2)).all fun r => decide (r.length ≤ 65520))]) ∧ M.map (·.2.2) = L.map (·.2.2) ∧ RowsL w' w.heap.size A c M ∧ Below w.heap.size w w' ∧ M.length = L.length := by
  refine (lawWhole X cx L hX hL).mono ?_
  rintro e w' ⟨A, c, Y, rfl, hY, hR, hb⟩
  have hl : Y.length = L.length := by have := congrArg List.length hY; simpa using this
  refine ⟨A, c, Y.map fun y => (y.2.1, y.2.2, y.1), by rw [List.length_map], by rw [List.map_map, ← hY]; rfl, ⟨by rw [List.map_map]; exact hR.rv, fun t ht => ?_⟩, hb, by rw [List.length_map, hl]⟩
  obtain ⟨y, hy, rfl⟩ := List.mem_map.1 ht
  refine ⟨hR.rc y hy, ?_⟩
  have hm : y.1 ∈ L.map (·.2.2) := by rw [← hY]; exact List.mem_map.2 ⟨y, hy, rfl⟩
  obtain ⟨t, ht, e⟩ := List.mem_map.1 hm
  show y.1.length ≤ _
  rw [← e]
  exact (hX.each t ht).2
theorem rs_of_rv {w : World} {A : Option Addr} (h : RV w A (L.map fun t => .slice t.1 t.2.2.length t.2.1)) : RS w A 1 (L.map fun t => [.slice t.1 t.2.2.length t.2.1]) := by
  refine ⟨fun h0 => ?_⟩
  obtain ⟨b, off, e, hb, hc⟩ := h.at_ (by simpa using h0)
  refine ⟨b, off, e, hb, fun i cs hi j v hj => ?_⟩
  rw [List.getElem?_map] at hi
  obtain ⟨t, ht, rfl⟩ := Option.map_eq_some_iff.1 hi
  match j with
  | 0 =>
    simp only [List.getElem?_cons_zero, Option.some.injEq] at hj
    subst hj
    rw [Nat.mul_one, Nat.add_zero]
    exact hc i _ (by rw [List.getElem?_map, ht]; rfl)
  | j + 1 => simp at hj
theorem slice_rows_len : ∀ r ∈ (L.map fun t => [Value.slice t.1 t.2.2.length t.2.1]), r.length = 1 := by
  intro r hr
  obtain ⟨t, _, rfl⟩ := List.mem_map.1 hr
  rfl
theorem slice_rows_one : ∀ r ∈ (L.map fun t => [Value.slice t.1 t.2.2.length t.2.1]), ∀ v ∈ r, v.oneCell' = true := by
  intro r hr v hv
  obtain ⟨t, _, rfl⟩ := List.mem_map.1 hr
  rw [List.mem_singleton.1 hv]
  rfl
theorem rv_of_rs {w : World} {A : Option Addr} (h : RS w A 1 (L.map fun t => [.slice t.1 t.2.2.length t.2.1])) : RV w A (L.map fun t => .slice t.1 t.2.2.length t.2.1) := by
  refine ⟨fun h0 => ?_⟩
  obtain ⟨b, off, e, hb, hc⟩ := h.at_ (by simpa using h0)
  refine ⟨b, off, e, hb, fun j v hv => ?_⟩
  rw [List.getElem?_map] at hv
  obtain ⟨t, ht, rfl⟩ := Option.map_eq_some_iff.1 hv
  have := hc j _ (by rw [List.getElem?_map, ht]; rfl) 0 _ rfl
  rwa [Nat.mul_one, Nat.add_zero] at this
theorem stopF_B (r : Int) (x : List (List UInt8)) (h : ∀ y ∈ x, y.length ≤ 65520) (hn : 1 + x.length < 18446744073709551616) : stopF (dskB r (recsB 1 x)) ⟨walName 0 1, 0, 1⟩ = (recsB 1 x).length := by
  have hs := scanF_recs x 1 h hn
  have hl := marksB_last x 0 1
  unfold stopF
  simp only [fgetB, Option.getD_some, hs]
  rw [hl]; omega
def lenSum (L : List (Option Addr × Nat × List UInt8)) (k : Nat) : Nat := ((L.take k).map fun t => t.2.2.length).sum
theorem lenSum_succ (L : List (Option Addr × Nat × List UInt8)) {k : Nat} (h : k < L.length) : lenSum L (k + 1) = lenSum L k + L[k].2.2.length := by
  unfold lenSum
  rw [List.take_succ_eq_append_getElem h, List.map_append, List.sum_append]
  simp
theorem lenSum_le (h : RBB w X L) : ∀ k, lenSum L k ≤ k * 140737488355328 := by
  intro k
  induction k with
  | zero => simp [lenSum]
  | succ k ih =>
    by_cases hk : k < L.length
    · rw [lenSum_succ L hk]
      have := (h.each L[k] (List.getElem_mem hk)).2
      omega
    · have e : lenSum L (k + 1) = lenSum L k := by unfold lenSum; rw [List.take_of_length_le (by omega), List.take_of_length_le (by omega)]
      omega
end
set_option maxRecDepth 20000 in
set_option maxHeartbeats 16000000 in
theorem walkWalBack (A0 : Option Addr) (c0 : Nat) (L0 : List (Option Addr × Nat × List UInt8)) (A1 : Option Addr) (c1 : Nat) (L1 : List (Option Addr × Nat × List UInt8)) (mask torn : Int) (w : World) (f0 : RBB w A0 L0) (n0 : L0.length ≤ 5864062014700) (f1 : RBB w A1 L1) (n1 : L1.length ≤ 5864062014700)
    (hm : 0 ≤ mask ∧ mask < 18446744073709551616) (ht : -9223372036854775808 ≤ torn ∧ torn ≤ 9223372036854775807) (hE : WEnv w.heap.size w) :
    Calls Tryz.prog 3 #[.slice A0 L0.length c0, .slice A1 L1.length c1, .int .u64 mask, .int .i64 torn] w fun e w' => e = .returned (.bool true) ∧ Below w.heap.size w w' := by
  obtain ⟨mask, rfl⟩ := Int.eq_ofNat_of_zero_le hm.1
  have hm' : mask < 18446744073709551616 := by omega
  have HE := Lib.hid hE
  have F0 := Lib.hid f0
  have F1 := Lib.hid f1
  have ND := Lib.hid (diskNew 4000000 w (by decide) (by decide))
  clear hE f0 f1 hm
  go_enter Tryz.func3, Tryz.ntmps3
  go_wp2_with (go_at_call 6; refine ND.out.mono ?_)
  first | rintro e w1 ⟨g, rfl, hd, b1⟩ | rintro e w1 g rfl hd b1
  have HB1 := Lib.hid b1
  have OP := Lib.hid (walOpenNew (B := w.heap.size) 4000000 (by decide) hd b1.size (fun x hx => hx.1) (HE.out.se.below b1))
  clear hd b1 ND
  go_wp2_with (go_at_call 7; refine OP.out.mono ?_)
  rintro e w2 ⟨p, S2, F2, rfl, ⟨Z, Y, SA, sc, RA, rc, hx⟩, hs2, hf2, hm2⟩
  have HB2 : Hid (Below w.heap.size w w2) := Lib.hid (Mods.old HB1.out hm2 HB1.out.size (fun i _ h => h.1))
  have HSF : Hid ((∀ b, S2 b → w.heap.size ≤ b) ∧ (∀ b, F2 b → w.heap.size ≤ b)) := Lib.hid ⟨fun b hb => (hs2 b hb).elim (fun h => h.1) (fun h => Nat.le_trans HB1.out.size h), fun b hb => Nat.le_trans HB1.out.size (hf2 b hb)⟩
  have HBD : Hid ((∀ b, S2 b → b < w2.heap.size) ∧ (∀ b, F2 b → b < w2.heap.size)) := Lib.hid ⟨fun b hb => hx.lb.di.bnd b hb, fun b hb => (hx.lb.bnd b hb).2⟩
  have HX2 := Lib.hid hx
  have hsz2 : w.heap.size ≤ w2.heap.size := HB2.out.size
  have W0 := Lib.hid (lawWholeL A0 c0 L0 (F0.out.below (HB2.out.mono (Nat.le_refl _))) n0)
  clear OP hx hs2 hf2 hm2 HB1
  go_wp2_with (go_at_call 8; refine W0.out.mono ?_)
  rintro e w3 ⟨Ax, cx, Mx, rfl, hMx, hRx, hb3, hMxl⟩
  have HMXL := Lib.hid hMxl
  clear hMxl
  have HB3 := Lib.hid (HB2.out.trans (hb3.mono hsz2))
  have HX3 := Lib.hid (HX2.out.below hb3)
  have hsz3 : w2.heap.size ≤ w3.heap.size := hb3.size
  have W1 := Lib.hid (lawWholeL A1 c1 L1 (F1.out.below (HB3.out.mono (Nat.le_refl _))) n1)
  have HRX := Lib.hid hRx
  have HMX := Lib.hid hMx
  obtain ⟨okx, hokx⟩ : ∃ okx, okx = ((L0.map (·.2.2)).all fun r => decide (r.length ≤ 65520)) := ⟨_, rfl⟩
  have HOX := Lib.hid hokx
  rw [← hokx]
  clear W0 hMx hRx hb3 HX2 HB2 hokx
  go_wp2_with (go_at_call 8; refine W1.out.mono ?_)
  rintro e w4 ⟨Ay, cy, My, rfl, hMy, hRy, hb4, hMyl⟩
  have HMYL := Lib.hid hMyl
  clear hMyl
  have HB4 := Lib.hid (HB3.out.trans (hb4.mono (Nat.le_trans hsz2 hsz3)))
  have HX4 := Lib.hid (HX3.out.below hb4)
  have hsz4 : w3.heap.size ≤ w4.heap.size := hb4.size
  have HRX4 := Lib.hid (HRX.out.below hb4)
  have HRY := Lib.hid hRy
  have HMY := Lib.hid hMy
  obtain ⟨oky, hoky⟩ : ∃ oky, oky = ((L1.map (·.2.2)).all fun r => decide (r.length ≤ 65520)) := ⟨_, rfl⟩
  have HOY := Lib.hid hoky
  rw [← hoky]
  clear W1 hMy hRy hb4 HX3 HB3 hoky HRX
  -- the sums
  go_upto_block 0 with fail
  go_cut [17, 18] (fun s17 s18 wx => ∃ k : Nat, (k = L0.length ∨ k = 41) ∧ k ≤ 41 ∧ s17 = .int .i64 (lenSum L0 k : Int) ∧ wx = w4)
  case first =>
    go_wp2_with fail
    go_loopw [17, 18] (fun s17 s18 wr => ∃ k : Nat, k ≤ L0.length ∧ k ≤ 41 ∧ s17 = .int .i64 (lenSum L0 k : Int) ∧ s18 = .int .i64 (k : Int) ∧ wr = w4) (fun _ s18 _ => L0.length - (intOf s18).toNat)
    case atStart => exact ⟨0, Nat.zero_le _, Nat.zero_le _, by simp [lenSum], rfl, by first | rfl | trivial⟩
    case round =>
      obtain ⟨k, hk, hk2, rfl, rfl, rfl⟩ := hrel
      by_cases hlt : k < L0.length
      · by_cases hlt2 : k < 41
        · have hki : (k : Int) < (L0.length : Int) := by omega
          have hki0 : (0 : Int) ≤ (k : Int) := by omega
          have hki2 : (k : Int) < 41 := by omega
          have hfr := F0.out.below HB4.out
          obtain ⟨xb, off, rfl, hbl, hc⟩ := hfr.cell hlt
          have h1 := lenSum_succ L0 hlt
          have h2 := lenSum_le hfr k
          have h3 := (hfr.each L0[k] (List.getElem_mem hlt)).2
          have hw : IntKind.i64.wrap ((lenSum L0 k : Int) + (L0[k].2.2.length : Int)) = (lenSum L0 (k + 1) : Int) := by rw [IntWalk.i64_in _ (by omega)]; omega
          generalize L0[k] = t at *
          obtain ⟨t0, t1, t2⟩ := t
          simp only at *
          clear h1 h2 hfr
          go_wp2_with fail
          go_roundw
          case rel => exact ⟨k + 1, by omega, by omega, rfl, by go_num, by first | rfl | trivial⟩
          case measure => simp [intOf]; omega
        · have h2 : ¬ (k : Int) < 41 := by omega
          have hki : (k : Int) < (L0.length : Int) := by omega
          go_wp2_with fail
          go_meet
          exact ⟨k, .inr (by omega), hk2, rfl, by first | rfl | trivial⟩
      · have hki : ¬ (k : Int) < (L0.length : Int) := by omega
        go_wp2_with fail
        go_meet
        exact ⟨k, .inl (by omega), hk2, rfl, by first | rfl | trivial⟩
  case rest =>
    obtain ⟨k0, hk0, hk01, rfl, rfl⟩ := hcut
    have hl0 := lenSum_le (F0.out.below HB4.out) k0
    obtain ⟨N0, hN0⟩ : ∃ N0, N0 = lenSum L0 k0 := ⟨_, rfl⟩
    rw [← hN0] at hl0 ⊢
    have HN0 := Lib.hid (And.intro hN0 hk0)
    clear hN0 hk0
    go_upto_block 2 with fail
    go_cut [17, 19] (fun s17 s19 wx => ∃ k : Nat, (k = L1.length ∨ k = 41) ∧ k ≤ 41 ∧ s17 = .int .i64 ((N0 + lenSum L1 k : Nat) : Int) ∧ wx = wc)
    case first =>
      go_wp2_with fail
      go_loopw [17, 19] (fun s17 s19 wr => ∃ k : Nat, k ≤ L1.length ∧ k ≤ 41 ∧ s17 = .int .i64 ((N0 + lenSum L1 k : Nat) : Int) ∧ s19 = .int .i64 (k : Int) ∧ wr = wc) (fun _ s19 _ => L1.length - (intOf s19).toNat)
      case atStart => exact ⟨0, Nat.zero_le _, Nat.zero_le _, by simp [lenSum], rfl, by first | rfl | trivial⟩
      case round =>
        obtain ⟨k, hk, hk2, rfl, rfl, rfl⟩ := hrel
        by_cases hlt : k < L1.length
        · by_cases hlt2 : k < 41
          · have hki : (k : Int) < (L1.length : Int) := by omega
            have hki0 : (0 : Int) ≤ (k : Int) := by omega
            have hki2 : (k : Int) < 41 := by omega
            have hfr := F1.out.below HB4.out
            obtain ⟨xb, off, rfl, hbl, hc⟩ := hfr.cell hlt
            have h1 := lenSum_succ L1 hlt
            have h2 := lenSum_le hfr k
            have h3 := (hfr.each L1[k] (List.getElem_mem hlt)).2
            have hw : IntKind.i64.wrap (((N0 + lenSum L1 k : Nat) : Int) + (L1[k].2.2.length : Int)) = ((N0 + lenSum L1 (k + 1) : Nat) : Int) := by rw [IntWalk.i64_in _ (by omega)]; omega
            generalize L1[k] = t at *
            generalize N0 + lenSum L1 k = s1 at *
            obtain ⟨s2, hs2⟩ : ∃ s2, s2 = N0 + lenSum L1 (k + 1) := ⟨_, rfl⟩
            rw [← hs2] at hw
            have HS2 := Lib.hid hs2
            clear hs2
            obtain ⟨t0, t1, t2⟩ := t
            simp only at *
            clear h1 h2 hfr
            go_wp2_with fail
            go_roundw
            case rel => exact ⟨k + 1, by omega, by omega, by rw [HS2.out], by go_num, by first | rfl | trivial⟩
            case measure => simp [intOf]; omega
          · have h2 : ¬ (k : Int) < 41 := by omega
            have hki : (k : Int) < (L1.length : Int) := by omega
            go_wp2_with fail
            go_meet
            exact ⟨k, .inr (by omega), hk2, rfl, by first | rfl | trivial⟩
        · have hki : ¬ (k : Int) < (L1.length : Int) := by omega
          go_wp2_with fail
          go_meet
          exact ⟨k, .inl (by omega), hk2, rfl, by first | rfl | trivial⟩
    case rest =>
      obtain ⟨k1, hk1, hk11, rfl, rfl⟩ := hcut
      have hl1 := lenSum_le (F1.out.below HB4.out) k1
      obtain ⟨N, hN⟩ : ∃ N, N = N0 + lenSum L1 k1 := ⟨_, rfl⟩
      rw [← hN]
      have hNb : N ≤ 20000000000000000 := by omega
      have HN := Lib.hid (And.intro hN hk1)
      clear hN hk1 hl0 hl1
      obtain ⟨w4, hw4⟩ : ∃ w4, w4 = wc := ⟨_, rfl⟩
      subst hw4
      have hszw : w.heap.size ≤ w4.heap.size := Nat.le_trans hsz2 (Nat.le_trans hsz3 hsz4)
      have AN : Hid (∀ v, Below w4.heap.size w4 v → Calls Tryz.prog 9 #[] v fun e w' => e = .returned (.bool true) ∧ Below v.heap.size v w') := Lib.hid (fun v hv => walAnswers v ((HE.out.se.below (HB4.out.trans (hv.mono hszw))).up (Nat.le_trans hszw hv.size)))
      go_upto_region 14 with fail
      go_cut [103] (fun s103 wx => (s103 = .bool true ∨ (s103 = .bool false ∧ okx = true ∧ oky = true ∧ L0.length ≤ 40 ∧ L1.length ≤ 40 ∧ N ≤ 1000000)) ∧ Hid (Below w4.heap.size w4 wx))
      case first =>
        by_cases hox : okx = true
        · subst hox
          by_cases hoy : oky = true
          · subst hoy
            by_cases h0 : (L0.length : Int) ≤ 40
            · by_cases h1 : (L1.length : Int) ≤ 40
              · by_cases h2 : (N : Int) ≤ 1000000
                · have h0' : ¬ (40 : Int) < (L0.length : Int) := by omega
                  have h1' : ¬ (40 : Int) < (L1.length : Int) := by omega
                  have h2' : ¬ (1000000 : Int) < (N : Int) := by omega
                  go_wp2_with (go_at_call 9; refine (AN.out _ (Below.refl _ _)).mono ?_)
                  first | rintro e w5 rfl hb5 | rintro e w5 ⟨rfl, hb5⟩
                  have HB5 := Lib.hid hb5
                  clear hb5
                  go_wp2_with fail
                  go_meet
                  exact ⟨.inr ⟨by first | rfl | trivial | (simp; omega), by first | rfl | trivial, by first | rfl | trivial, by omega, by omega, by omega⟩, HB5⟩
                · have h0' : ¬ (40 : Int) < (L0.length : Int) := by omega
                  have h1' : ¬ (40 : Int) < (L1.length : Int) := by omega
                  have h2' : (1000000 : Int) < (N : Int) := by omega
                  go_wp2_with (go_at_call 9; refine (AN.out _ (Below.refl _ _)).mono ?_)
                  first | rintro e w5 rfl hb5 | rintro e w5 ⟨rfl, hb5⟩
                  have HB5 := Lib.hid hb5
                  clear hb5
                  go_wp2_with fail
                  go_meet
                  exact ⟨.inl (by first | rfl | trivial | (simp; omega)), HB5⟩
              · have h0' : ¬ (40 : Int) < (L0.length : Int) := by omega
                have h1' : (40 : Int) < (L1.length : Int) := by omega
                go_wp2_with (go_at_call 9; refine (AN.out _ (Below.refl _ _)).mono ?_)
                first | rintro e w5 rfl hb5 | rintro e w5 ⟨rfl, hb5⟩
                have HB5 := Lib.hid hb5
                clear hb5
                go_wp2_with fail
                go_meet
                exact ⟨.inl (by first | rfl | trivial | (simp; omega)), HB5⟩
            · have h0' : (40 : Int) < (L0.length : Int) := by omega
              go_wp2_with (go_at_call 9; refine (AN.out _ (Below.refl _ _)).mono ?_)
              first | rintro e w5 rfl hb5 | rintro e w5 ⟨rfl, hb5⟩
              have HB5 := Lib.hid hb5
              clear hb5
              go_wp2_with fail
              go_meet
              exact ⟨.inl (by first | rfl | trivial | (simp; omega)), HB5⟩
          · have hoy' : oky = false := by simpa using hoy
            subst hoy'
            go_wp2_with (go_at_call 9; refine (AN.out _ (Below.refl _ _)).mono ?_)
            first | rintro e w5 rfl hb5 | rintro e w5 ⟨rfl, hb5⟩
            have HB5 := Lib.hid hb5
            clear hb5
            go_wp2_with fail
            go_meet
            exact ⟨.inl (by first | rfl | trivial | (simp; omega)), HB5⟩
        · have hox' : okx = false := by simpa using hox
          subst hox'
          go_wp2_with (go_at_call 9; refine (AN.out _ (Below.refl _ _)).mono ?_)
          first | rintro e w5 rfl hb5 | rintro e w5 ⟨rfl, hb5⟩
          have HB5 := Lib.hid hb5
          clear hb5
          go_wp2_with fail
          go_meet
          exact ⟨.inl (by first | rfl | trivial | (simp; omega)), HB5⟩
      case rest =>
        obtain ⟨rfl | ⟨rfl, hox, hoy, hl0, hl1, hN0⟩, HB5⟩ := hcut
        · go_wp2_with (go_at_call 9; refine (AN.out _ HB5.out).mono ?_)
          first | rintro e w6 rfl hb6 | rintro e w6 ⟨rfl, hb6⟩
          have HB6 : Hid (Below w.heap.size w w6) := Lib.hid (HB4.out.trans ((HB5.out.trans (hb6.mono HB5.out.size)).mono hszw))
          clear hb6
          go_wp2_with fail
          go_ret
          exact ⟨rfl, HB6.out⟩
        · obtain ⟨w5, hw5⟩ : ∃ w5, w5 = wc := ⟨_, rfl⟩
          subst hw5
          obtain ⟨x, hxd⟩ : ∃ x, x = L0.map (·.2.2) := ⟨_, rfl⟩
          obtain ⟨y, hyd⟩ : ∃ y, y = L1.map (·.2.2) := ⟨_, rfl⟩
          have hx65 : ∀ r ∈ x, r.length ≤ 65520 := by
            have h := HOX.out
            rw [hox, ← hxd] at h
            intro r hr
            simpa using List.all_eq_true.1 h.symm r hr
          have hy65 : ∀ r ∈ y, r.length ≤ 65520 := by
            have h := HOY.out
            rw [hoy, ← hyd] at h
            intro r hr
            simpa using List.all_eq_true.1 h.symm r hr
          have hsum : ∀ (L : List (Option Addr × Nat × List UInt8)) (k : Nat), (k = L.length ∨ k = 41) → L.length ≤ 40 → lenSum L k = ((L.map (·.2.2)).map List.length).sum := by
            intro L k hk hl
            unfold lenSum
            rw [List.take_of_length_le (by omega), List.map_map]
            rfl
          have hxs := hsum L0 k0 HN0.out.2 hl0
          have hys := hsum L1 k1 HN.out.2 hl1
          have hxl : x.length ≤ 40 := by rw [hxd, List.length_map]; exact hl0
          have hyl : y.length ≤ 40 := by rw [hyd, List.length_map]; exact hl1
          rw [← hxd, ← HN0.out.1] at hxs
          rw [← hyd] at hys
          have hNs := HN.out.1
          have hrx := recsB_len2 x 1
          have hry := recsB_len2 y (1 + x.length)
          have hmx : Mx.map (·.2.2) = x := HMX.out.trans hxd.symm
          have hmy : My.map (·.2.2) = y := HMY.out.trans hyd.symm
          have HPX := Lib.hid (And.intro hx65 (And.intro hxl (show (recsB 1 x).length ≤ 2000000 by omega)))
          have HPY := Lib.hid (And.intro hy65 (And.intro hyl (show (recsB 1 x).length + (recsB (1 + x.length) y).length ≤ 3000000 by omega)))
          have HMM := Lib.hid (And.intro hmx hmy)
          clear hx65 hy65 hsum hxs hys hNs hrx hry hxd hyd hox hoy hN0 HOX HOY HN0 HN HMX HMY hmx hmy hxl hyl
          have hszc : w4.heap.size ≤ w5.heap.size := HB5.out.size
          have hw5 : w.heap.size ≤ w5.heap.size := Nat.le_trans hszw hszc
          obtain ⟨T0, hT0⟩ : ∃ T0 : Nat → Prop, T0 = fun b => (w.heap.size ≤ b ∧ b < w2.heap.size) ∨ w5.heap.size ≤ b := ⟨_, rfl⟩
          have HTG : Hid (∀ b, w5.heap.size ≤ b → T0 b) := Lib.hid (fun b hb => by rw [hT0]; exact .inr hb)
          have HTL : Hid (∀ b, T0 b → w.heap.size ≤ b) := Lib.hid (fun b hb => by
            rw [hT0] at hb
            rcases hb with hb | hb
            · exact hb.1
            · omega)
          have HX5 := Lib.hid (HX4.out.below HB5.out)
          have HBW := Lib.hid (HB4.out.trans (HB5.out.mono hszw))
          have RX := Lib.hid ((HRX4.out.below HB5.out).rl (T := T0) (fun b hb => by rw [hT0] at hb; omega))
          have RY := Lib.hid ((HRY.out.below HB5.out).rl (T := T0) (fun b hb => by rw [hT0] at hb; omega))
          have HSS : Hid ((∀ b, S2 b → T0 b) ∧ (∀ b, F2 b → T0 b)) := Lib.hid ⟨fun b hb => by rw [hT0]; exact .inl ⟨HSF.out.1 b hb, HBD.out.1 b hb⟩, fun b hb => by rw [hT0]; exact .inl ⟨HSF.out.2 b hb, HBD.out.2 b hb⟩⟩
          have hmxl : Mx.length ≤ 40 := by rw [HMXL.out]; exact hl0
          have hmyl : My.length ≤ 40 := by rw [HMYL.out]; exact hl1
          have AP := walAppend HX5.out hw5 (HE.out.se.below HBW.out) Ax cx Mx (RX.out.weak (fun b hb => hb.elim (HSS.out.1 b) (HSS.out.2 b))) (by omega) lg1_fine (by show (1 : Nat) ≤ _; omega)
          obtain ⟨D1, hA1, hA2, hA3⟩ := appendW_B 4000000 x HPX.out.1 (by have := HPX.out.2.2; omega) (by omega)
          rw [HMM.out.1, show appendW lg1 (dsk1 4000000) x = (0, lgB x, D1) from hA1] at AP
          have APH := Lib.hid AP
          have HA3 := Lib.hid (And.intro hA2 hA3)
          clear AP hA1 hA2 hA3 hT0 HX4 HRX4 HRY HX5 HB4 HB5 AN HSF HBD HMXL HMYL hl0 hl1 n0 n1 F0 F1
          go_wp2_with (go_at_call 10; refine APH.out.mono ?_)
          rintro e w6 ⟨rfl, S6, F6, ⟨Z6, Y6, SA6, sc6, RA6, rc6, hx6⟩, hs6, hf6, hm6⟩
          have HM6 : Hid (Mods T0 w5 w6) := Lib.hid (hm6.mono (fun i _ h => h.elim (HSS.out.1 i) (HSS.out.2 i)))
          have HT6 : Hid ((∀ b, S6 b → T0 b) ∧ (∀ b, F6 b → T0 b)) := Lib.hid ⟨fun b hb => (hs6 b hb).elim (HSS.out.1 b) (HTG.out b), fun b hb => (hf6 b hb).elim (HSS.out.2 b) (HTG.out b)⟩
          have HP6 : Hid (T0 p) := Lib.hid (HT6.out.2 p hx6.fp)
          have hs56 : w5.heap.size ≤ w6.heap.size := HM6.out.size
          have SY := walSync hx6 (Nat.le_trans hw5 hs56) (by have := HA3.out.1; omega)
          rw [HA3.out.2] at SY
          have SYH := Lib.hid SY
          clear hx6 hs6 hf6 hm6 SY APH HSS
          go_wp2_with (go_at_call 11; refine SYH.out.mono ?_)
          rintro e w7 ⟨rfl, S7, hx7, hs7, hm7⟩
          have HM7 : Hid (Mods T0 w5 w7) := Lib.hid (HM6.out.trans hm7 (fun i hi => .inl (hi.elim (HT6.out.1 i) (fun e => by rw [e]; exact HP6.out))))
          have HT7 : Hid (∀ b, S7 b → T0 b) := Lib.hid (fun b hb => (hs7 b hb).elim (HT6.out.1 b) (fun h => HTG.out b (Nat.le_trans hs56 h)))
          have hs57 : w5.heap.size ≤ w7.heap.size := HM7.out.size
          have FA := diskFallC mask torn hx7.lb.di (by show (1 : Nat) ≤ _; omega) hm' ht
          rw [fallD_B] at FA
          have FAH := Lib.hid FA
          clear hx7 hs7 hm7 SYH FA HM6 HT6 HA3
          go_wp2_with (go_at_call 12; refine FAH.out.mono ?_)
          rintro e w8 ⟨rfl, hd8, hm8⟩
          have HM8 : Hid (Mods T0 w5 w8) := Lib.hid (HM7.out.trans hm8 (fun i hi => .inl (HT7.out i hi)))
          have HT8 : Hid (∀ b, Sx S7 w7 w8 b → T0 b) := Lib.hid (fun b hb => hb.elim (HT7.out b) (fun h => HTG.out b (Nat.le_trans hs57 h.1)))
          have hs58 : w5.heap.size ≤ w8.heap.size := HM8.out.size
          have HB8 : Hid (Below w.heap.size w w8) := Lib.hid (Mods.old HBW.out HM8.out hw5 (fun i _ h => HTL.out i h))
          have OP := walOpen1 (B := w.heap.size) hd8 rfl (walName 0 1) 0 1 rfl partsN_one (by rw [walName_one]; decide) nameOk_one (by omega) (by omega) (recsB 1 x) (fgetB _ _) (by have := HPX.out.2.2; omega) (stopF_B 4000000 x HPX.out.1 (by have := HPX.out.2.1; omega)) (Nat.le_trans hw5 hs58) (fun b hb => HTL.out b (HT8.out b hb)) (HE.out.below HB8.out) (by show (1 : Nat) ≤ _; omega) (fun q hq => by
            have e : q = (walName 0 1, recsB 1 x) := by simpa [dskB, DSt.files] using hq
            rw [e]; show (walName 0 1).length ≤ _; rw [walName_one]; decide)
          rw [openW_B 4000000 x HPX.out.1 (by have := HPX.out.2.1; omega)] at OP
          have OPH : Hid (Calls Tryz.prog 7 #[.pointer (some ⟨g, 0, none⟩)] w8 fun e w' => ∃ (p : Nat) (S' F' : Nat → Prop), e = .returned (.tuple #[.pointer (some ⟨p, 0, none⟩), .int .i64 0]) ∧ LR w.heap.size S' F' w' p g (lgB x) (dskB 4000000 (recsB 1 x)) ∧ (∀ b, S' b → Sx S7 w7 w8 b ∨ w8.heap.size ≤ b) ∧ (∀ b, F' b → w8.heap.size ≤ b) ∧ Mods (Sx S7 w7 w8) w8 w') := Lib.hid (OP.mono (by
            rintro e w' ⟨p, S', F', rfl, hl, k1, k2, k3⟩
            exact ⟨p, S', F', rfl, hl, k1, k2, k3⟩))
          clear hd8 hm8 FAH HM7 HT7 OP HB8
          go_wp2_with (go_at_call 7; refine OPH.out.mono ?_)
          rintro e w9 ⟨k, S9, F9, rfl, ⟨Z9, Y9, SA9, sc9, RA9, rc9, hx9⟩, hs9, hf9, hm9⟩
          have HM9 : Hid (Mods T0 w5 w9) := Lib.hid (HM8.out.trans hm9 (fun i hi => .inl (HT8.out i hi)))
          have HT9 : Hid ((∀ b, S9 b → T0 b) ∧ (∀ b, F9 b → T0 b)) := Lib.hid ⟨fun b hb => (hs9 b hb).elim (HT8.out b) (fun h => HTG.out b (Nat.le_trans hs58 h)), fun b hb => HTG.out b (Nat.le_trans hs58 (hf9 b hb))⟩
          have hs59 : w5.heap.size ≤ w9.heap.size := HM9.out.size
          have HB9 : Hid (Below w.heap.size w w9) := Lib.hid (Mods.old HBW.out HM9.out hw5 (fun i _ h => HTL.out i h))
          have RY9 : RL T0 w9 Ay My := RY.out.mods HM9.out (fun b _ h => h)
          have AP := walAppend hx9 (Nat.le_trans hw5 hs59) (HE.out.se.below HB9.out) Ay cy My (RY9.weak (fun b hb => hb.elim (HT9.out.1 b) (HT9.out.2 b))) (by omega) (lgB_fine x HPX.out.1 (by have := HPX.out.2.1; omega)) (by show (1 : Nat) ≤ _; omega)
          rw [HMM.out.2] at AP
          have hq := appendW_C 4000000 x y HPY.out.1 (by have := HPY.out.2.2; omega) (by omega) (by have := HPX.out.2.1; omega)
          obtain ⟨q, hqd⟩ : ∃ q, q = appendW (lgB x) (dskB 4000000 (recsB 1 x)) y := ⟨_, rfl⟩
          rw [← hqd] at AP hq
          obtain ⟨hq1, hq2, hq3, hq4⟩ := hq
          rw [hq1] at AP
          have HQ := Lib.hid (And.intro hq2 (And.intro hq3 hq4))
          have APH := Lib.hid AP
          clear hx9 hs9 hf9 hm9 RY9 AP hqd hq1 hq2 hq3 hq4 OPH HM8 HT8
          go_wp2_with (go_at_call 10; refine APH.out.mono ?_)
          rintro e w10 ⟨rfl, S10, F10, ⟨Z10, Y10, SA10, sc10, RA10, rc10, hx10⟩, hs10, hf10, hm10⟩
          have HM10 : Hid (Mods T0 w5 w10) := Lib.hid (HM9.out.trans hm10 (fun i hi => .inl (hi.elim (HT9.out.1 i) (HT9.out.2 i))))
          have hs510 : w5.heap.size ≤ w10.heap.size := HM10.out.size
          have HB10 : Hid (Below w.heap.size w w10) := Lib.hid (Mods.old HBW.out HM10.out hw5 (fun i _ h => HTL.out i h))
          have hxa := (RX.out.mods HM10.out (fun b _ h => h)).rbb
          have hya := (RY.out.mods HM10.out (fun b _ h => h)).rbb
          have ha : Below w10.heap.size w10 (w10.alloc (.cells #[] TB)) := (Below.refl _ _).alloc (Nat.le_refl _) _
          have HO0 := Lib.hid (OR.made0 (base := w10.heap.size) w10 TB 1 (Nat.le_refl _))
          have HRX1 := Lib.hid (rs_of_rv (hxa.below ha).reads)
          have hwa : w10.heap.size ≤ (w10.alloc (.cells #[] TB)).heap.size := ha.size
          have HXA := Lib.hid hxa
          have HYA := Lib.hid hya
          have HX10 := Lib.hid hx10
          have HAL := Lib.hid ha
          obtain ⟨i0, hi0, hz0, hz1, hz2⟩ := info_parts tb_info2
          clear hx10 hs10 hf10 hm10 hxa hya ha APH HM9 HT9 HB9 HM10 RX RY HTG HTL
          go_wp2_with (at_builtin; refine wp_appendS _ rfl (.tmp 138) (.tmp 139) 22 TB rfl Tryz.underlying22 hi0 hz0 hz1 hz2 rfl (by decide) w10.heap.size (some ⟨w10.heap.size, 0, none⟩) Ax 0 cx [] (Mx.map fun t => [.slice t.1 t.2.2.length t.2.1]) rfl (by rw [List.length_map]; rfl) HO0.out HRX1.out slice_rows_len slice_rows_one (by simp; omega) (by simp; omega) hwa ?_)
          intro ys A11 c11 w11 hys hy1 hy2 hrow hg11 hA11
          have hysd : ys = Mx.map fun t => [Value.slice t.1 t.2.2.length t.2.1] := by simpa using hys.out
          have hysl : ys.length ≤ 40 := by rw [hysd, List.length_map]; exact hmxl
          have m11 := Mods.of_grown (S := fun b => b = w10.heap.size) hg11 (fun k e => by
            have : w10.heap.size = k := by simpa using e
            exact this.symm)
          have hb11 : Below w10.heap.size w10 w11 := Mods.old HAL.out m11 hwa (fun i _ e => by rw [e]; exact Nat.le_refl _)
          have HB11 := Lib.hid hb11
          have HRY1 := Lib.hid (rs_of_rv (HYA.out.below hb11).reads)
          have HROW := Lib.hid hrow
          have HYD := Lib.hid hysd
          have hw11 : w10.heap.size ≤ w11.heap.size := hb11.size
          clear hys hy1 hy2 hrow hg11 hA11 hysd m11 hb11 HRX1 HO0 HAL
          go_wp2_with (at_builtin; refine wp_appendS _ rfl (.tmp 140) (.tmp 141) 22 TB rfl Tryz.underlying22 hi0 hz0 hz1 hz2 rfl (by decide) w10.heap.size A11 Ay c11 cy ys (My.map fun t => [.slice t.1 t.2.2.length t.2.1]) rfl (by rw [List.length_map]; rfl) HROW.out HRY1.out slice_rows_len slice_rows_one (by simp; omega) (by simp; omega) hw11 ?_)
          intro ys2 A12 c12 w12 hys2 hy3 hy4 hrow2 hg12 hA12
          have hysd2 : ys2 = (Mx ++ My).map fun t => [Value.slice t.1 t.2.2.length t.2.1] := by rw [List.map_append, ← HYD.out]; exact hys2.out
          have hysl2 : ys2.length = (Mx ++ My).length := by rw [hysd2, List.length_map]
          have hb12 : Below w10.heap.size w10 w12 := Mods.old HB11.out (Mods.of_grown (S := fun b => w10.heap.size ≤ b) hg12 (fun k e => (HROW.out.blk_lt k e).1)) hw11 (fun i _ e => e)
          obtain ⟨w13, hw13⟩ : ∃ w13, w13 = w12.alloc (.cells #[.int .u64 1, .slice A12 ys2.length c12, .int .i64 0] TM5) := ⟨_, rfl⟩
          have hbl : Below w12.heap.size w12 w13 := by rw [hw13]; exact (Below.refl _ _).alloc (Nat.le_refl _) _
          have hb13 : Below w10.heap.size w10 w13 := hb12.trans (hbl.mono hb12.size)
          have hmb : Blk w13 w12.heap.size TM5 #[.int .u64 (q.2.1.first : Int), .slice A12 (Mx ++ My).length c12, .int .i64 0] := by
            rw [HQ.out.2.1, ← hysl2, hw13]
            exact Blk.new w12 _ TM5
          have hrr : RBB w13 A12 (Mx ++ My) := by
            refine ⟨?_, fun t ht => ?_⟩
            · have h := hrow2.rs
              rw [hysd2] at h
              exact (rv_of_rs h).below hbl
            · rcases List.mem_append.1 ht with ht | ht
              · exact (HXA.out.below hb13).each t ht
              · exact (HYA.out.below hb13).each t ht
          have hrl : q.2.1.recs.length ≤ 80 := by
            rw [HQ.out.1, List.length_append]
            have := HPX.out.2.1; have := HPY.out.2.1; omega
          have AK := lawAlike (HX10.out.below hb13) HQ.out.2.2 A12 c12 (Mx ++ My) (.int .i64 0) hmb hrr (by rw [List.map_append, HMM.out.1, HMM.out.2, HQ.out.1]) (by rw [HQ.out.2.1]; exact Nat.le_refl _) (by
            show q.2.1.first + q.2.1.recs.length < _
            rw [HQ.out.2.1]; omega) (fun r hr => by
            rw [HQ.out.1] at hr
            rcases List.mem_append.1 hr with hr | hr
            · have := HPX.out.1 r hr; omega
            · have := HPY.out.1 r hr; omega)
          rw [hw13] at AK
          have AKH := Lib.hid AK
          have HW13 := Lib.hid hw13
          have HB13 := Lib.hid (HB10.out.trans (hb13.mono (Nat.le_trans hw5 hs510)))
          clear hys2 hy3 hy4 hrow2 hg12 hA12 hysd2 hysl2 hb12 hw13 hbl hb13 hmb hrr AK HROW HRY1 HYD HXA HYA HX10 HB10 HQ HPX HPY HMM
          go_wp2_with (go_at_call 13; refine AKH.out.mono ?_)
          rw [← HW13.out]
          first | rintro e w14 rfl hb14 | rintro e w14 ⟨rfl, hb14⟩
          have HB14 : Hid (Below w.heap.size w w14) := Lib.hid (HB13.out.trans (hb14.mono HB13.out.size))
          clear hb14 AKH HW13
          go_wp2_with fail
          go_ret
          exact ⟨rfl, HB14.out⟩
theorem walkWalBackC (A0 : Option Addr) (c0 : Nat) (L0 : List (Option Addr × Nat × List UInt8)) (A1 : Option Addr) (c1 : Nat) (L1 : List (Option Addr × Nat × List UInt8)) (mask torn : Int) (w : World) (f0 : RBB w A0 L0) (n0 : L0.length * 24 ≤ 140737488351232) (f1 : RBB w A1 L1) (n1 : L1.length * 24 ≤ 140737488351232)
    (hm : 0 ≤ mask ∧ mask ≤ 18446744073709551615) (ht : -9223372036854775808 ≤ torn ∧ torn ≤ 9223372036854775807) (hl : laidMetH Tryz.prog Rows.walBackRow.laid w) (hsh : w.ShapedOpen Tryz.prog) :
    Calls Tryz.prog 3 #[.slice A0 L0.length c0, .slice A1 L1.length c1, .int .u64 mask, .int .i64 torn] w fun e w' => e = .returned (.bool true) ∧ Below w.heap.size w w' := by
  obtain ⟨m, hmx⟩ := Tryz.laysM146.s1_3 w hsh
  exact walkWalBack A0 c0 L0 A1 c1 L1 mask torn w f0 (by omega) f1 (by omega) ⟨hm.1, by omega⟩ ht ⟨senv_of hl (by kernel_rfl) (by simp [Rows.walBackRow]) (by simp [Rows.walBackRow]) (by simp [Rows.walBackRow]), m, fun w' hb => (hb.cell (p := ⟨3, 0, none⟩) (World.block_lt_of_cell? w ⟨3, 0, none⟩ hmx)).trans hmx⟩
end Go.Proofs.YtjgonfnpfbifjaaGreatDoor
