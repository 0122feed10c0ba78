/- Package wal's load on one file that fits and is whole. -/
import Derived.Test.YtjgonfnpfbifjaaGreatDoorWalH2
import Derived.Test.YtjgonfnpfbifjaaGreatDoorWalS
namespace Go.Proofs.YtjgonfnpfbifjaaGreatDoor
open Go.RowKit

abbrev TF : TypeId := 63
def fdRow (f : Fd) : List Value := [.string ⟨f.name.toArray⟩, .int .u64 (f.era : Int), .int .u64 (f.first : Int)]
theorem found_size : (Tryz.prog.info? TF).map (·.size) = some 3 := by kernel_rfl
section
variable {B p g sc rc : Nat} {S F : Nat → Prop} {w w' : World} {l : Lg} {D : DSt} {Z : List (Sg × Pl)} {Y : List (List UInt8 × Option Addr × Nat)} {SA RA : Option Addr} {s : Sg} {z : Pl}
/-- Where load's scan of a file stands: j of its records are taken in. -/
structure ScanAt (B : Nat) (S F : Nat → Prop) (w : World) (p g : Nat) (l : Lg) (D : DSt) (f : Fd) (b : List UInt8) (DA : Option Addr) (dc : Nat) (q j m : Nat) (MB MC : Nat) (wr : World) : Prop where
  lx : ∃ F' Y' SA' sc' RA' rc', LX B S F' wr p g { l with first := f.first, segs := [⟨f.name, f.first, 0 :: (scanF b f.first).2.take j⟩], recs := (scanF b f.first).1.take j } D [(⟨f.name, f.first, 0 :: (scanF b f.first).2.take j⟩, ⟨q, MB, MC⟩)] Y' SA' sc' RA' rc' ∧ ∀ x, F' x → F x ∨ w.heap.size ≤ x
  data : OB wr w.heap.size DA dc b
  stop : (0 :: (scanF b f.first).2.take j).getLastD 0 = m
  rest : ∃ k, scanR b k m (f.first + j) = ((scanF b f.first).1.drop j, (scanF b f.first).2.drop j) ∧ b.length ≤ m + k
  low : 8 * j ≤ m ∧ m ≤ b.length
  jl : j ≤ (scanF b f.first).1.length ∧ j ≤ (scanF b f.first).2.length
  mods : Mods (fun x => S x ∨ F x) w wr
/-- What load ends its scan with. -/
theorem ScanAt.done {f : Fd} {b : List UInt8} {DA : Option Addr} {dc q j m MB MC : Nat} {wr : World} (h : ScanAt B S F w p g l D f b DA dc q j m MB MC wr) (hd : (scanF b f.first).1.drop j = [] ∧ (scanF b f.first).2.drop j = []) :
    (∃ F' Y' SA' sc' RA' rc', LX B S F' wr p g { l with first := f.first, segs := [⟨f.name, f.first, 0 :: (scanF b f.first).2⟩], recs := (scanF b f.first).1 } D [(⟨f.name, f.first, 0 :: (scanF b f.first).2⟩, ⟨q, MB, MC⟩)] Y' SA' sc' RA' rc' ∧ ∀ x, F' x → F x ∨ w.heap.size ≤ x) ∧ (0 :: (scanF b f.first).2).getLastD 0 = m := by
  have e1 : (scanF b f.first).1.take j = (scanF b f.first).1 := by have := List.take_append_drop j (scanF b f.first).1; rw [hd.1, List.append_nil] at this; exact this
  have e2 : (scanF b f.first).2.take j = (scanF b f.first).2 := by have := List.take_append_drop j (scanF b f.first).2; rw [hd.2, List.append_nil] at this; exact this
  have hx := h.lx
  have hs := h.stop
  rw [e1, e2] at hx
  rw [e2] at hs
  exact ⟨hx, hs⟩
/-- A record that was read is put behind the others. -/
theorem LX.addRead {g8 c8 n n0 c' : Nat} {w8 : World} {A' : Option Addr} {r : List UInt8} (h : LX B S F w p g l D Z Y SA sc RA rc) (hrb : RB w A' r) (hrk : 0 < r.length → ∀ b, A'.map (·.block) = some b → n0 ≤ b ∧ ∃ cs, Blk w b 5 cs) (hB : B ≤ n0) (hn0 : n0 ≤ w.heap.size) (hS0 : ∀ b, S b → b < n0)
    (hg : w.grownBy w8 (RA.map (·.block))) (ho : OV w8 B TB (some ⟨g8, 0, none⟩) c8 (Y.map recV ++ [recV (r, A', c')])) (hat : RA.map (·.block) = some g8 ∨ g8 = w.heap.size) (hn : n = l.recs.length + 1) :
    LX B S (fun b => F b ∨ (n0 ≤ b ∧ b < w8.heap.size)) (w8.setCell ⟨p, 3, none⟩ (.slice (some ⟨g8, 0, none⟩) n c8)) p g { l with recs := l.recs ++ [r] } D Z (Y ++ [(r, A', c')]) SA sc (some ⟨g8, 0, none⟩) c8 := by
  have hw8 : w.heap.size ≤ w8.heap.size := hg.size
  have hg8 := ho.blk_lt g8 rfl
  have m8 : Mods (fun k => RA.map (·.block) = some k) w w8 := Mods.of_grown hg (fun k e => e)
  have hne : 0 < r.length → ∀ k, A'.map (·.block) = some k → ¬ RA.map (·.block) = some k := fun h0 k hk e => by
    obtain ⟨_, cs, hb⟩ := hrk h0 k hk
    exact h.lb.rv.ne_blk hb (by decide) e
  refine h.addRec (y := (r, A', c')) (hrb.mods m8 hne) hg ho hn (fun b hb => .inl hb) (fun b hb => ?_) (fun b hb => ?_) ?_ (fun h0 b hb => ?_)
  · rcases hb with hb | hb
    · exact h.lb.dis b hb
    · intro hs; have := hS0 b hs; omega
  · rcases hb with hb | hb
    · have := h.lb.bnd b hb; exact ⟨this.1, by omega⟩
    · exact ⟨by omega, hb.2⟩
  · rcases hat with e | e
    · exact .inl (h.lb.fr _ e)
    · exact .inr ⟨by omega, hg8.2⟩
  · obtain ⟨h1, cs, hb'⟩ := hrk h0 b hb
    have hlt := hb'.lt
    exact ⟨.inr ⟨h1, by omega⟩, cs, hb'.mods m8 (hne h0 b hb)⟩
/-- A mark more on the last segment, in the log too. -/
theorem LX.addMark {g8 c8 n v : Nat} {w8 : World} {Z1 : List (Sg × Pl)} (h : LX B S F w p g l D (Z1 ++ [(s, z)]) Y SA sc RA rc) (hl : l.segs = Z1.map Prod.fst ++ [s])
    (hg : w.grownBy w8 (some z.m)) (hk : OV w8 B 3 (some ⟨g8, 0, none⟩) c8 (s.marks.map encMark ++ [encMark v])) (ho : OV w8 B 3 (some ⟨z.m, 0, none⟩) z.c (s.marks.map encMark)) (hat : some z.m = some g8 ∨ g8 = w.heap.size) (hn : n = s.marks.length + 1) (hB : B ≤ w.heap.size) :
    LX B S (fun b => F b ∨ b = g8) (w8.setCell ⟨z.q, 2, none⟩ (.slice (some ⟨g8, 0, none⟩) n c8)) p g { l with segs := Z1.map Prod.fst ++ [{ s with marks := s.marks ++ [v] }] } D (Z1 ++ [({ s with marks := s.marks ++ [v] }, ⟨z.q, g8, c8⟩)]) Y SA sc RA rc := by
  have hz := h.lb.sg (s, z) (by simp)
  have hfz := h.lb.fq (s, z) (by simp)
  obtain ⟨cs, hmb⟩ := hz.mblk
  have m8 : Mods (· = z.m) w w8 := Mods.of_grown hg (fun k e => by injection e with e; exact e.symm)
  have hsz : w.heap.size ≤ w8.heap.size := hg.size
  have hg8 := hk.blk_lt g8 rfl
  have hmn := h.lb.mn
  rw [List.map_append, List.nodup_append] at hmn
  have hne : ∀ y ∈ Z1, y.2.m ≠ z.m := fun y hy => hmn.2.2 _ (List.mem_map.2 ⟨y, hy, rfl⟩) _ (by simp)
  have h8 : LX B S F w8 p g l D (Z1 ++ [(s, z)]) Y SA sc RA rc := by
    refine ⟨h.blk.mods m8 (h.blk.ne hmb (by decide)), h.fp, h.zs, h.ys, h.lb.keepMarks hmb (h.lb.dis _ hfz.2) m8 fun z' hz' e => ?_⟩
    rcases List.mem_append.1 hz' with hz' | hz'
    · exact absurd e (hne z' hz')
    · rw [List.mem_singleton.1 hz']; exact ho
  have h9 : LX B S (fun b => F b ∨ b = g8) w8 p g l D (Z1 ++ [(s, z)]) Y SA sc RA rc := by
    refine ⟨h8.blk, .inl h8.fp, h8.zs, h8.ys, h8.lb.wide (fun b hb => .inl hb) (fun b hb => ?_) (fun b hb => ?_)⟩
    · rcases hb with hb | rfl
      · exact h8.lb.dis b hb
      · rcases hat with e | e
        · injection e with e; rw [← e]; exact h.lb.dis _ hfz.2
        · intro hs; have := h.lb.di.bnd _ hs; omega
    · rcases hb with hb | rfl
      · exact h8.lb.bnd b hb
      · exact hg8
  subst hn
  have := h9.setMarks (s' := { s with marks := s.marks ++ [v] }) (mb := g8) (mc := c8) hl ⟨rfl, rfl⟩ (by simp) (by simpa using hk) (.inr rfl) (fun y hy e => by
    rcases hat with e2 | e2
    · injection e2 with e2; exact hne y hy (by rw [e, e2])
    · have := (h.lb.sg y (List.mem_append_left _ hy)).lt.2; omega)
  simpa using this
/-- A log, and a file's bytes, while load scans them. -/
structure ScanO (B : Nat) (S F F' : Nat → Prop) (w : World) (p g : Nat) (l : Lg) (D : DSt) (Z : List (Sg × Pl)) (Y : List (List UInt8 × Option Addr × Nat)) (SA : Option Addr) (sc : Nat) (RA : Option Addr) (rc : Nat) (b : List UInt8) (DA : Option Addr) (dc : Nat) (wr : World) : Prop where
  lx : LX B S F' wr p g l D Z Y SA sc RA rc
  data : OB wr w.heap.size DA dc b
  mods : Mods (fun x => S x ∨ F x) w wr
  ff : ∀ x, F' x → F x ∨ w.heap.size ≤ x
section
variable {b : List UInt8} {DA : Option Addr} {dc : Nat} {wr wa : World} {F' : Nat → Prop}
theorem ScanO.below (h : ScanO B S F F' w p g l D Z Y SA sc RA rc b DA dc wr) (hb : Below wr.heap.size wr wa) : ScanO B S F F' w p g l D Z Y SA sc RA rc b DA dc wa :=
  ⟨h.lx.below hb, h.data.below hb, h.mods.below hb, h.ff⟩
theorem ScanO.addRead {g8 c8 n n0 c' : Nat} {w8 : World} {A' : Option Addr} {r : List UInt8} (h : ScanO B S F F' w p g l D Z Y SA sc RA rc b DA dc wr) (hrb : RB wr A' r) (hrk : 0 < r.length → ∀ b, A'.map (·.block) = some b → n0 ≤ b ∧ ∃ cs, Blk wr b 5 cs) (hB : B ≤ w.heap.size) (hn1 : w.heap.size ≤ n0) (hn0 : n0 ≤ wr.heap.size) (hS0 : ∀ b, S b → b < n0)
    (hg : wr.grownBy w8 (RA.map (·.block))) (ho : OV w8 B TB (some ⟨g8, 0, none⟩) c8 (Y.map recV ++ [recV (r, A', c')])) (hat : RA.map (·.block) = some g8 ∨ g8 = wr.heap.size) (hn : n = l.recs.length + 1) :
    ScanO B S F (fun b => F' b ∨ (n0 ≤ b ∧ b < w8.heap.size)) w p g { l with recs := l.recs ++ [r] } D Z (Y ++ [(r, A', c')]) SA sc (some ⟨g8, 0, none⟩) c8 b DA dc (w8.setCell ⟨p, 3, none⟩ (.slice (some ⟨g8, 0, none⟩) n c8)) := by
  have m8 : Mods (fun k => RA.map (·.block) = some k) wr w8 := Mods.of_grown hg (fun k e => e)
  have hp8 := h.lx.blk.mods m8 (h.lx.lb.rv.ne_blk h.lx.blk (by decide))
  have mp : Mods (· = p) w8 (w8.setCell ⟨p, 3, none⟩ (.slice (some ⟨g8, 0, none⟩) n c8)) := (Mods.refl (· = p) w8).setCell ⟨p, _, none⟩ (.inl rfl) _
  have d8 : OB w8 w.heap.size DA dc b := h.data.mods m8 (fun k hk e => by
    obtain ⟨cs, hb⟩ := h.data.blk k hk
    exact h.lx.lb.rv.ne_blk hb (by decide) e)
  refine ⟨h.lx.addRead hrb hrk (Nat.le_trans hB hn1) hn0 hS0 hg ho hat hn, d8.mods mp (fun k hk e => d8.ne_blk hp8 (by decide) (by rw [hk, e])), ?_, fun x hx => hx.elim (h.ff x) (fun hx => .inr (by omega))⟩
  refine (h.mods.trans m8 (fun i hi => ?_)).trans mp (fun i hi => ?_)
  · rcases h.ff i (h.lx.lb.fr i hi) with h1 | h1
    · exact .inl (.inr h1)
    · exact .inr h1
  · rcases h.ff p h.lx.fp with h1 | h1
    · exact .inl (.inr (by rw [hi]; exact h1))
    · exact .inr (by rw [hi]; exact h1)
theorem ScanO.addMark {g8 c8 n v : Nat} {w8 : World} {Z1 : List (Sg × Pl)} (h : ScanO B S F F' w p g l D (Z1 ++ [(s, z)]) Y SA sc RA rc b DA dc wr) (hl : l.segs = Z1.map Prod.fst ++ [s])
    (hg : wr.grownBy w8 (some z.m)) (hk : OV w8 B 3 (some ⟨g8, 0, none⟩) c8 (s.marks.map encMark ++ [encMark v])) (ho : OV w8 B 3 (some ⟨z.m, 0, none⟩) z.c (s.marks.map encMark)) (hat : some z.m = some g8 ∨ g8 = wr.heap.size) (hn : n = s.marks.length + 1) (hB : B ≤ w.heap.size) :
    ScanO B S F (fun b => F' b ∨ b = g8) w p g { l with segs := Z1.map Prod.fst ++ [{ s with marks := s.marks ++ [v] }] } D (Z1 ++ [({ s with marks := s.marks ++ [v] }, ⟨z.q, g8, c8⟩)]) Y SA sc RA rc b DA dc (w8.setCell ⟨z.q, 2, none⟩ (.slice (some ⟨g8, 0, none⟩) n c8)) := by
  have hz := h.lx.lb.sg (s, z) (by simp)
  have hfz := h.lx.lb.fq (s, z) (by simp)
  obtain ⟨cs, hmb⟩ := hz.mblk
  have m8 : Mods (· = z.m) wr w8 := Mods.of_grown hg (fun k e => by injection e with e; exact e.symm)
  have hq8 := hz.blk.mods m8 (hz.blk.ne hmb (by decide))
  have mq : Mods (· = z.q) w8 (w8.setCell ⟨z.q, 2, none⟩ (.slice (some ⟨g8, 0, none⟩) n c8)) := (Mods.refl (· = z.q) w8).setCell ⟨z.q, _, none⟩ (.inl rfl) _
  have d8 : OB w8 w.heap.size DA dc b := h.data.mods m8 (fun k hk e => h.data.ne_blk hmb (by decide) (by rw [hk, e]))
  have hs : w.heap.size ≤ wr.heap.size := h.mods.size
  refine ⟨h.lx.addMark hl hg hk ho hat hn (Nat.le_trans hB hs), d8.mods mq (fun k hk e => d8.ne_blk hq8 (by decide) (by rw [hk, e])), ?_, fun x hx => hx.elim (h.ff x) (fun hx => ?_)⟩
  · refine (h.mods.trans m8 (fun i hi => ?_)).trans mq (fun i hi => ?_)
    · rcases h.ff _ hfz.2 with h1 | h1
      · exact .inl (.inr (by rw [hi]; exact h1))
      · exact .inr (by rw [hi]; exact h1)
    · rcases h.ff _ hfz.1 with h1 | h1
      · exact .inl (.inr (by rw [hi]; exact h1))
      · exact .inr (by rw [hi]; exact h1)
  · rcases hat with e | e
    · injection e with e; rw [hx, ← e]; exact h.ff _ hfz.2
    · right; rw [hx, e]; exact hs
end
set_option maxRecDepth 20000 in
set_option maxHeartbeats 8000000 in
theorem walLoad1 (h : LX B S F w p g l D Z Y SA sc RA rc) (hs : l.segs = []) (hr : l.recs = []) (hB : B ≤ w.heap.size) (hcnt : D.cnt ≤ 1000) (f : Fd) (hera : f.era = l.era) (hfn : f.name.length ≤ 1000) (hfe : f.era ≤ 1000000000000) (hff : f.first ≤ 1000000000000)
    (hdn : D.down = false) (hok : nameOk f.name = true) (b : List UInt8) (hb : fget D.files f.name = some b) (hbl : b.length ≤ 100000000) (hst : stopF D f = b.length)
    (xb cx : Nat) (hxb : xb < w.heap.size) (d0 : w.cell? ⟨xb, 0, none⟩ = some (.string ⟨f.name.toArray⟩)) (d1 : w.cell? ⟨xb, 1, none⟩ = some (.int .u64 (f.era : Int))) (d2 : w.cell? ⟨xb, 2, none⟩ = some (.int .u64 (f.first : Int))) :
    Calls Tryz.prog 26 #[.pointer (some ⟨p, 0, none⟩), .slice (some ⟨xb, 0, none⟩) 1 cx] w (LDone B S F w p g (.int .i64 (loadF [f] l true D).1) (loadF [f] l true D).2.1 (loadF [f] l true D).2.2) := by
  have hZ : Z = [] := by
    have := h.lens.1
    rw [hs] at this
    exact List.eq_nil_of_length_eq_zero this
  subst hZ
  have hY : Y = [] := by
    have := h.lens.2
    rw [hr] at this
    exact List.eq_nil_of_length_eq_zero this
  subst hY
  obtain ⟨l2, hl2⟩ : ∃ l2, l2 = takeF l D f := ⟨_, rfl⟩
  have hl2' : l2 = { l with first := f.first, segs := [⟨f.name, f.first, 0 :: (scanF b f.first).2⟩], recs := (scanF b f.first).1 } := by
    rw [hl2]; unfold takeF; rw [hs, hr, hb]; rfl
  obtain ⟨q, hq⟩ : ∃ q, q = loadF [f] l true D := ⟨_, rfl⟩
  have hq' : q = ((syncD D).1, l2, (syncD D).2) := by
    rw [hq]
    unfold loadF
    rw [if_neg (by simp [unfit, hera, hs]), if_pos (by rw [hst, hb]; rfl)]
    unfold loadF
    rw [if_neg (by rw [← hl2, hl2']; simp), ← hl2]
  rw [← hq]
  have HQ := Lib.hid hq'
  have HL2 := Lib.hid hl2'
  have HX := Lib.hid h
  have HS := Lib.hid hs
  have HR := Lib.hid hr
  have HST : Hid ((0 :: (scanF b f.first).2).getLastD 0 = b.length) := Lib.hid (by have := hst; unfold stopF at this; rw [hb] at this; exact this)
  have HBF := Lib.hid (And.intro hb (And.intro hok hdn))
  clear h hs hr hq hq' hl2 hl2' hst hb hok hdn
  go_enter Tryz.func26, Tryz.ntmps26
  go_wp2_with fail
  go_loopw [5, 19] (fun s5 s19 wr => s5 = .bool true ∧ ((s19 = .int .i64 0 ∧ wr = w) ∨ (s19 = .int .i64 1 ∧ Hid (∃ F' Z' Y' SA' sc' RA' rc', LX B S F' wr p g l2 D Z' Y' SA' sc' RA' rc' ∧ (∀ x, F' x → F x ∨ w.heap.size ≤ x) ∧ Mods (fun x => S x ∨ F x) w wr)))) (fun _ s19 _ => 1 - (intOf s19).toNat)
  case atStart => exact ⟨rfl, .inl ⟨rfl, by first | rfl | trivial⟩⟩
  case round =>
    obtain ⟨rfl, ⟨rfl, rfl⟩ | ⟨rfl, HL⟩⟩ := hrel
    · -- the file
      obtain ⟨hba, hxa⟩ := below_row wr #[.string ⟨#[]⟩, .int .u64 0, .int .u64 0] #[.string ⟨f.name.toArray⟩, .int .u64 (f.era : Int), .int .u64 (f.first : Int)] TF
      have HZ := Lib.hid (Blk.new wr #[.string ⟨#[]⟩, .int .u64 0, .int .u64 0] TF)
      have HXA := Lib.hid hxa
      have HBA := Lib.hid hba
      clear hba hxa
      go_upto_region 5 with (refine wpList_store_row rfl TF (.tmp 7) (.tmp 22) rfl wr.heap.size #[.string ⟨f.name.toArray⟩, .int .u64 (f.era : Int), .int .u64 (f.first : Int)] rfl rfl _ _ HZ.out found_size rfl (by simp [Value.oneCell']) ?_)
      clear HZ HXA HBA
      have hbs : Below wr.heap.size wr (wr.alloc (.cells #[.string ⟨f.name.toArray⟩, .int .u64 (l.era : Int), .int .u64 (f.first : Int)] TF)) := (Below.refl _ _).alloc (Nat.le_refl _) _
      have hfb := Blk.new wr #[.string ⟨f.name.toArray⟩, .int .u64 (l.era : Int), .int .u64 (f.first : Int)] TF
      have hsz1 : wr.heap.size < (wr.alloc (.cells #[.string ⟨f.name.toArray⟩, .int .u64 (l.era : Int), .int .u64 (f.first : Int)] TF)).heap.size := by simp
      have HX1 := Lib.hid (HX.out.below hbs)
      have HB1 := Lib.hid hbs
      have HFB := Lib.hid hfb
      clear hbs hfb d0 d1 d2
      generalize wr.alloc (.cells #[.string ⟨f.name.toArray⟩, .int .u64 (l.era : Int), .int .u64 (f.first : Int)] TF) = w1 at *
      have f1 : w1.cell? ⟨wr.heap.size, 1, none⟩ = some (.int .u64 (l.era : Int)) := HFB.out.cell 1 rfl
      have e1 : w1.cell? ⟨p, 1, none⟩ = some (.int .u64 (l.era : Int)) := HX1.out.blk.cell 1 rfl
      have e2 : w1.cell? ⟨p, 2, none⟩ = some (.slice SA 0 sc) := by
        have e : w1.cell? ⟨p, 2, none⟩ = some (.slice SA l.segs.length sc) := HX1.out.blk.cell 2 rfl
        rw [HS.out] at e; exact e
      go_quiet (fail)
      clear f1 e1 e2
      have HX2 := Lib.hid (HX1.out.below (belowDrewN (Below.refl _ _) nq))
      have HFB2 := Lib.hid (HFB.out.kept (belowDrewN (Below.refl _ _) nq))
      have HB2 := Lib.hid (belowDrewN HB1.out nq)
      have hsz2 : wr.heap.size < (w1.drewN nq).heap.size := Nat.lt_of_lt_of_le hsz1 (belowDrewN (Below.refl w1.heap.size w1) nq).size
      generalize w1.drewN nq = w2 at *
      clear HX1 HFB HB1
      go_upto_region 9 with fail
      refine wp_region_planE_gen (by kernel_rfl) [(0, none), (1, none), (2, none), (3, none), (4, none), (5, none), (6, some [3, 5]), (7, none), (8, none), (9, none), (10, none), (11, none)] (by kernel_rfl) (by kernel_rfl) (by decide) ?_
      intro wq hwq
      have hBq : Below w2.heap.size w2 wq := by rw [hwq]; exact (Below.refl _ _).drew
      have HXQ := Lib.hid (HX2.out.below hBq)
      have HFQ := Lib.hid (HFB2.out.kept hBq)
      have HBQ := Lib.hid (HB2.out.trans (hBq.mono HB2.out.size))
      have y0 : wq.cell? ⟨p, 0, none⟩ = some (.pointer (some ⟨g, 0, none⟩)) := HXQ.out.blk.cell 0 rfl
      have yf : wq.cell? ⟨wr.heap.size, 0, none⟩ = some (.string ⟨f.name.toArray⟩) := HFQ.out.cell 0 rfl
      clear hwq hBq HX2 HFB2 HB2
      iterate 3 (refine planE_pure (v := ?_) rfl (by rfl) (fun w' => ?_) ?_; rotate_left; (focus (simp only [List.getElem_toArray, List.getElem_cons_succ, List.getElem_cons_zero]; go_simp; first | with_reducible rfl | (simp (disch := omega) only [if_pos, if_neg, dif_pos, Result.andThen_ok]; try with_reducible rfl) | skip)); try simp only [List.getElem_toArray, List.getElem_cons_succ, List.getElem_cons_zero, Act.put, List.setIfInBounds_toArray, List.set_cons_zero, List.set_cons_succ])
      refine planE_cells (v := ?_) [(⟨p, 0, none⟩, .pointer (some ⟨g, 0, none⟩))] (by simp; and_intros <;> assumption) rfl (by rfl) (fun w' hw' => ?_) ?_; rotate_left; (focus (simp only [List.forall_mem_cons, List.not_mem_nil, false_imp_iff, implies_true, and_true] at hw'; simp only [List.getElem_toArray, List.getElem_cons_succ, List.getElem_cons_zero]; go_simp; first | with_reducible rfl | (simp (disch := omega) only [if_pos, if_neg, dif_pos, Result.andThen_ok]; try with_reducible rfl) | skip)); try simp only [List.getElem_toArray, List.getElem_cons_succ, List.getElem_cons_zero, Act.put, List.setIfInBounds_toArray, List.set_cons_zero, List.set_cons_succ]
      iterate 1 (refine planE_pure (v := ?_) rfl (by rfl) (fun w' => ?_) ?_; rotate_left; (focus (simp only [List.getElem_toArray, List.getElem_cons_succ, List.getElem_cons_zero]; go_simp; first | with_reducible rfl | (simp (disch := omega) only [if_pos, if_neg, dif_pos, Result.andThen_ok]; try with_reducible rfl) | skip)); try simp only [List.getElem_toArray, List.getElem_cons_succ, List.getElem_cons_zero, Act.put, List.setIfInBounds_toArray, List.set_cons_zero, List.set_cons_succ])
      refine planE_cells (v := ?_) [(⟨wr.heap.size, 0, none⟩, .string ⟨f.name.toArray⟩)] (by simp; and_intros <;> assumption) rfl (by rfl) (fun w' hw' => ?_) ?_; rotate_left; (focus (simp only [List.forall_mem_cons, List.not_mem_nil, false_imp_iff, implies_true, and_true] at hw'; simp only [List.getElem_toArray, List.getElem_cons_succ, List.getElem_cons_zero]; go_simp; first | with_reducible rfl | (simp (disch := omega) only [if_pos, if_neg, dif_pos, Result.andThen_ok]; try with_reducible rfl) | skip)); try simp only [List.getElem_toArray, List.getElem_cons_succ, List.getElem_cons_zero, Act.put, List.setIfInBounds_toArray, List.set_cons_zero, List.set_cons_succ]
      refine planE_eff rfl (by rfl) (fun K hK => ?_)
      go_simp
      have hre : readE D f.name = 0 := by unfold readE; rw [HBF.out.2.2, HBF.out.2.1, HBF.out.1]; rfl
      have hrb : readB D f.name = b := by unfold readB; rw [if_pos hre, HBF.out.1]; rfl
      have RD := diskReadC f.name HXQ.out.lb.di (by omega)
      unfold ReadEnd at RD
      rw [hre, hrb] at RD
      refine RD.mono ?_
      rintro e w5 ⟨DA, dc, rfl, ho5, hb5⟩
      have HX5 := Lib.hid (HXQ.out.below hb5)
      have HF5 := Lib.hid (HFQ.out.kept hb5)
      have HB5 := Lib.hid (HBQ.out.trans (hb5.mono HBQ.out.size))
      have HO5 := Lib.hid (ho5.base_le (base' := wr.heap.size) HBQ.out.size)
      clear y0 yf ho5 hb5 HXQ HFQ HBQ RD hre hrb
      have y0 : w5.cell? ⟨p, 0, none⟩ = some (.pointer (some ⟨g, 0, none⟩)) := HX5.out.blk.cell 0 rfl
      have yf : w5.cell? ⟨wr.heap.size, 0, none⟩ = some (.string ⟨f.name.toArray⟩) := HF5.out.cell 0 rfl
      refine hK _ _ (by simp [owed, left] <;> (and_intros <;> first | trivial | assumption)) ?_
      clear hK K
      try simp only [List.getElem_toArray, List.getElem_cons_succ, List.getElem_cons_zero, Act.put, List.setIfInBounds_toArray, List.set_cons_zero, List.set_cons_succ]
      iterate 5 (refine planE_pure (v := ?_) rfl (by rfl) (fun w' => ?_) ?_; rotate_left; (focus (simp only [List.getElem_toArray, List.getElem_cons_succ, List.getElem_cons_zero]; go_simp; first | with_reducible rfl | (simp (disch := omega) only [if_pos, if_neg, dif_pos, Result.andThen_ok]; try with_reducible rfl) | skip)); try simp only [List.getElem_toArray, List.getElem_cons_succ, List.getElem_cons_zero, Act.put, List.setIfInBounds_toArray, List.set_cons_zero, List.set_cons_succ])
      refine planE_end ?_
      clear y0 yf
      have p4 : w5.cell? ⟨p, 4, none⟩ = some (.int .u64 (l.first : Int)) := HX5.out.blk.cell 4 rfl
      have r4 : w5.frozen? ⟨p, 4, none⟩ = false := HX5.out.blk.free 4
      have e2 : w5.cell? ⟨p, 2, none⟩ = some (.slice SA 0 sc) := by
        have e : w5.cell? ⟨p, 2, none⟩ = some (.slice SA l.segs.length sc) := HX5.out.blk.cell 2 rfl
        rw [HS.out] at e; exact e
      have n0 : w5.cell? ⟨wr.heap.size, 0, none⟩ = some (.string ⟨f.name.toArray⟩) := HF5.out.cell 0 rfl
      have n2 : w5.cell? ⟨wr.heap.size, 2, none⟩ = some (.int .u64 (f.first : Int)) := HF5.out.cell 2 rfl
      go_upto_region 14 with fail
      clear p4 r4 e2 n0 n2
      have mp : Mods (· = p) w5 (w5.setCell ⟨p, 4, none⟩ (.int .u64 (f.first : Int))) := (Mods.refl (· = p) w5).setCell ⟨p, _, none⟩ (.inl rfl) _
      have HX6 : Hid (LX B S F (w5.setCell ⟨p, 4, none⟩ (.int .u64 (f.first : Int))) p g { l with first := f.first } D [] [] SA sc RA rc) := Lib.hid (HX5.out.set 4 _ rfl rfl rfl)
      have HF6 := Lib.hid (HF5.out.mods mp (HF5.out.ne HX5.out.blk (by decide)))
      have HO6 := Lib.hid (HO5.out.mods mp (fun k hk e => HO5.out.ne_blk HX5.out.blk (by decide) (by rw [hk, e])))
      have HM6 : Hid (Mods (fun x => S x ∨ F x) wr (w5.setCell ⟨p, 4, none⟩ (.int .u64 (f.first : Int)))) := Lib.hid ((Mods.of_below HB5.out).trans mp (fun i hi => .inl (.inr (by rw [hi]; exact HX5.out.fp))))
      clear mp HX5 HF5 HO5 HB5
      generalize w5.setCell ⟨p, 4, none⟩ (.int .u64 (f.first : Int)) = w6 at *
      have hsz6 : wr.heap.size ≤ w6.heap.size := HM6.out.size
      have n0 : w6.cell? ⟨wr.heap.size, 0, none⟩ = some (.string ⟨f.name.toArray⟩) := HF6.out.cell 0 rfl
      have n2 : w6.cell? ⟨wr.heap.size, 2, none⟩ = some (.int .u64 (f.first : Int)) := HF6.out.cell 2 rfl
      go_upto_region 15 with fail
      clear n0 n2
      have hB6 : B ≤ w6.heap.size := Nat.le_trans hB hsz6
      have hm1 : OV (w6.alloc (.cells #[.int .i64 0] 3)) B 3 (some ⟨w6.heap.size, 0, none⟩) 1 [.int .i64 0] := OV.lit1 w6 hB6 _ _
      have hq1 := Blk.new (w6.alloc (.cells #[.int .i64 0] 3)) #[.string ⟨f.name.toArray⟩, .int .u64 (f.first : Int), .slice (some ⟨w6.heap.size, 0, none⟩) 1 1] TG
      rw [show (w6.alloc (.cells #[.int .i64 0] 3)).heap.size = w6.heap.size + 1 from by simp] at hq1
      have hb8 : Below w6.heap.size w6 ((w6.alloc (.cells #[.int .i64 0] 3)).alloc (.cells #[.string ⟨f.name.toArray⟩, .int .u64 (f.first : Int), .slice (some ⟨w6.heap.size, 0, none⟩) 1 1] TG)) := ((Below.refl _ _).alloc (Nat.le_refl _) _).alloc (by simp) _
      have hsg8 : SgAt ((w6.alloc (.cells #[.int .i64 0] 3)).alloc (.cells #[.string ⟨f.name.toArray⟩, .int .u64 (f.first : Int), .slice (some ⟨w6.heap.size, 0, none⟩) 1 1] TG)) B ⟨f.name, f.first, [0]⟩ ⟨w6.heap.size + 1, w6.heap.size, 1⟩ := ⟨hq1, hm1.alloc _, by simp⟩
      have HSG8 := Lib.hid hsg8
      have HB8 := Lib.hid hb8
      clear hm1 hq1 hb8 hsg8
      generalize (w6.alloc (.cells #[.int .i64 0] 3)).alloc (.cells #[.string ⟨f.name.toArray⟩, .int .u64 (f.first : Int), .slice (some ⟨w6.heap.size, 0, none⟩) 1 1] TG) = w8 at *
      have hsz8 : w6.heap.size ≤ w8.heap.size := HB8.out.size
      obtain ⟨i0, hi0, hz0, hz1, hz2⟩ := info_parts tp_info
      have hb9 : Below w8.heap.size w8 (w8.alloc (.cells #[.pointer (some ⟨w6.heap.size + 1, 0, none⟩)] TP)) := (Below.refl _ _).alloc (Nat.le_refl _) _
      have HL9 := Lib.hid ((Blk.new w8 #[.pointer (some ⟨w6.heap.size + 1, 0, none⟩)] TP).cell (j := 0) (v := .pointer (some ⟨w6.heap.size + 1, 0, none⟩)) rfl)
      have HX9 := Lib.hid (HX6.out.below (HB8.out.trans (hb9.mono hsz8)))
      have HSG9 := Lib.hid (HSG8.out.below hb9)
      have HB9 := Lib.hid (HB8.out.trans (hb9.mono hsz8))
      have hsz9 : B ≤ (w8.alloc (.cells #[.pointer (some ⟨w6.heap.size + 1, 0, none⟩)] TP)).heap.size := Nat.le_trans hB6 HB9.out.size
      have HSV : Hid (OV (w8.alloc (.cells #[.pointer (some ⟨w6.heap.size + 1, 0, none⟩)] TP)) B TP SA sc []) := Lib.hid HX9.out.lb.sv
      have e2 : w8.cell? ⟨p, 2, none⟩ = some (.slice SA 0 sc) := by
        have e : w8.cell? ⟨p, 2, none⟩ = some (.slice SA l.segs.length sc) := (HX6.out.blk.kept HB8.out).cell 2 rfl
        rw [HS.out] at e; exact e
      clear hb9
      go_wp2_with (at_builtin; go_loud (refine wp_appendK _ rfl (.tmp 94) (.tmp 96) 54 TP rfl Tryz.underlying54 hi0 hz0 hz1 hz2 rfl B SA sc 1 w8.heap.size [] (.pointer (some ⟨w6.heap.size + 1, 0, none⟩)) rfl rfl HSV.out HL9.out rfl (by simp) (by simp) hsz9 ?_))
      intro ys m g8 c8 w10 hys hm8 ho8 hk8 hg8 hat8
      have hm1 : m = 1 := hm8
      subst hm1
      have hat9 : SA.map (·.block) = some g8 ∨ g8 = (w8.alloc (.cells #[.pointer (some ⟨w6.heap.size + 1, 0, none⟩)] TP)).heap.size := by
        rcases hat8 with ⟨a, e1, e2⟩ | e1
        · exact .inl (by rw [e1, ← e2]; rfl)
        · exact .inr (by rw [e1]; simp)
      have m8 := Mods.of_grown (S := fun x => SA.map (·.block) = some x) hg8 (fun _ h => h)
      have hp8 := HX9.out.blk.mods m8 (HX9.out.lb.sv.ne_blk HX9.out.blk (by decide))
      have hO10 := (HO6.out.below HB9.out).mods m8 (fun k hk e => by
        obtain ⟨cs, hb⟩ := (HO6.out.below HB9.out).blk k hk
        exact HX9.out.lb.sv.ne_blk hb (by decide) e)
      have hADD := HX9.out.addNew (n0 := w6.heap.size) (n := 1) HSG9.out ⟨by show w6.heap.size ≤ w6.heap.size + 1; omega, Nat.le_refl _⟩ hB6 (fun b hb => HX6.out.lb.di.bnd b hb) (fun b hb => (HX6.out.lb.bnd b hb).2) HB9.out.size hg8 ho8 hat9 (by rw [HS.out]; exact hm8)
      have mp : Mods (· = p) w10 (w10.setCell ⟨p, 2, none⟩ (.slice (some ⟨g8, 0, none⟩) 1 c8)) := (Mods.refl (· = p) w10).setCell ⟨p, _, none⟩ (.inl rfl) _
      have HADD := Lib.hid hADD
      have HO11 := Lib.hid (hO10.mods mp (fun k hk e => hO10.ne_blk hp8 (by decide) (by rw [hk, e])))
      have HM11 : Hid (Mods (fun x => S x ∨ F x) wr (w10.setCell ⟨p, 2, none⟩ (.slice (some ⟨g8, 0, none⟩) 1 c8))) := Lib.hid (((HM6.out.trans (Mods.of_below (S := fun x => S x ∨ F x) HB9.out) (fun i hi => .inl hi)).trans m8 (fun i hi => .inl (.inr (HX9.out.lb.fs i hi)))).trans mp (fun i hi => .inl (.inr (by rw [hi]; exact HX9.out.fp))))
      have y2 : w10.cell? ⟨p, 2, none⟩ = some (.slice SA 0 sc) := by
        have e : w10.cell? ⟨p, 2, none⟩ = some (.slice SA l.segs.length sc) := hp8.cell 2 rfl
        rw [HS.out] at e; exact e
      have f2 : w10.frozen? ⟨p, 2, none⟩ = false := hp8.free 2
      clear hys hk8 ho8 hg8 hat8 hat9 hADD hO10 mp m8 HSG9 HSG8 HL9 HSV HX9 e2
      go_upto_block 2 with fail
      have hsz11 : wr.heap.size ≤ w10.heap.size := by have := HM11.out.size; simpa using this
      have HSC : Hid (ScanAt B S F wr p g l D f b DA dc (w6.heap.size + 1) 0 0 w6.heap.size 1 (w10.setCell ⟨p, 2, none⟩ (.slice (some ⟨g8, 0, none⟩) 1 c8))) := Lib.hid (by
        have hx := HADD.out
        rw [HS.out, HR.out] at hx
        refine ⟨⟨fun x => F x ∨ (w6.heap.size ≤ x ∧ x < w10.heap.size), [], some ⟨g8, 0, none⟩, c8, RA, rc, ?_, fun x hx => hx.imp id (fun h => by omega)⟩, HO11.out, rfl, ⟨b.length, by rw [List.drop_zero, List.drop_zero]; rfl, by omega⟩, ⟨by omega, by omega⟩, ⟨Nat.zero_le _, Nat.zero_le _⟩, HM11.out⟩
        simp only [List.take_zero]
        exact hx)
      clear HADD HO11 HM11 y2 f2 hp8 HO6 HF6 HX6 HM6 HB9 hB6 hsz6 hsz8 hsz9 hsz11
      generalize w10.setCell ⟨p, 2, none⟩ (.slice (some ⟨g8, 0, none⟩) 1 c8) = w12 at *
      generalize w6.heap.size + 1 = q0 at *
      generalize w6.heap.size = mb0 at *
      have HSD : ∀ b, S b → b < wr.heap.size := fun b hb => HX.out.lb.di.bnd b hb
      obtain ⟨w0, hw0⟩ : ∃ w0, w0 = wr := ⟨_, rfl⟩
      subst hw0
      go_wp2_with fail
      go_loopw [] (fun wr => ∃ (j x MB MC : Nat), Hid (ScanAt B S F w0 p g l D f b DA dc q0 j x MB MC wr)) (fun wr => match wr.cell? ⟨p, 3, none⟩ with | some (.slice _ n _) => b.length - n | _ => 0)
      case atStart => exact ⟨0, 0, _, _, HSC⟩
      case round =>
        obtain ⟨j, x, MB, MC, HS2⟩ := hrel
        by_cases hlt : x < b.length
        · have hsc := HS2.out
          obtain ⟨F', Y', SA', sc', RA', rc', hlx, hff⟩ := hsc.lx
          obtain ⟨k, hk, hbk⟩ := hsc.rest
          obtain ⟨r, nx, hrec⟩ : ∃ r nx, recAt b x (f.first + j) = some (r, nx) := by
            rcases hr : recAt b x (f.first + j) with _ | ⟨r, nx⟩
            · exfalso
              have hd := (hsc.done (scan_end hk (.inr hr))).2
              rw [HST.out] at hd; omega
            · exact ⟨r, nx, rfl⟩
          obtain ⟨e1, e2, k', hk', hbk'⟩ := scan_step hk hbk hlt hrec
          obtain ⟨hn1, hn2, hr3⟩ := recAt_ok hrec
          have hlow := hsc.low
          have hj1 : j < (scanF b f.first).1.length := by
            rcases Nat.lt_or_ge j (scanF b f.first).1.length with h | h
            · exact h
            · rw [List.getElem?_eq_none h] at e1; cases e1
          have hj2 : j < (scanF b f.first).2.length := by
            rcases Nat.lt_or_ge j (scanF b f.first).2.length with h | h
            · exact h
            · rw [List.getElem?_eq_none h] at e2; cases e2
          obtain ⟨R, hR⟩ : ∃ R, R = (scanF b f.first).1.take j := ⟨_, rfl⟩
          obtain ⟨M, hM⟩ : ∃ M, M = (scanF b f.first).2.take j := ⟨_, rfl⟩
          have hRl : R.length = j := by rw [hR, List.length_take]; omega
          have hMl : M.length = j := by rw [hM, List.length_take]; omega
          have t1 : Hid ((scanF b f.first).1.take (j + 1) = R ++ [r]) := Lib.hid (by rw [hR, List.take_add_one, e1]; rfl)
          have t2 : Hid ((scanF b f.first).2.take (j + 1) = M ++ [nx]) := Lib.hid (by rw [hM, List.take_add_one, e2]; rfl)
          have hst : Sg.stop ⟨f.name, f.first, 0 :: M⟩ = x := by rw [hM]; exact hsc.stop
          have hnxt : Sg.next ⟨f.name, f.first, 0 :: M⟩ = f.first + j := by unfold Sg.next; simp only [List.length_cons]; omega
          rw [← hR, ← hM] at hlx
          have HNEW : Hid (∀ MB' MC' wy, (∃ F' Y' SA' sc' RA' rc', LX B S F' wy p g { l with first := f.first, segs := [⟨f.name, f.first, 0 :: (M ++ [nx])⟩], recs := R ++ [r] } D [(⟨f.name, f.first, 0 :: (M ++ [nx])⟩, ⟨q0, MB', MC'⟩)] Y' SA' sc' RA' rc' ∧ ∀ x, F' x → F x ∨ w0.heap.size ≤ x) → OB wy w0.heap.size DA dc b → Mods (fun x => S x ∨ F x) w0 wy → ScanAt B S F w0 p g l D f b DA dc q0 (j + 1) nx MB' MC' wy) := Lib.hid (fun MB' MC' wy h1 h2 h3 => ⟨by rw [t1.out, t2.out]; exact h1, h2, by rw [t2.out]; rw [← List.cons_append, List.getLastD_concat], ⟨k', hk', hbk'⟩, ⟨by omega, hn2⟩, ⟨by omega, by omega⟩, h3⟩)
          have HSO : Hid (ScanO B S F F' w0 p g { l with first := f.first, segs := [⟨f.name, f.first, 0 :: M⟩], recs := R } D [(⟨f.name, f.first, 0 :: M⟩, ⟨q0, MB, MC⟩)] Y' SA' sc' RA' rc' b DA dc wr) := Lib.hid ⟨hlx, hsc.data, hsc.mods, hff⟩
          have hYl : Y'.length = j := by rw [hlx.lens.2]; exact hRl
          have hm3 : Hid (wr.cell? ⟨p, 3, none⟩ = some (.slice RA' j rc')) := Lib.hid (by
            have e : wr.cell? ⟨p, 3, none⟩ = some (.slice RA' R.length rc') := hlx.blk.cell 3 rfl
            rw [hRl] at e; exact e)
          have hml : (0 :: M).length ≤ 1000000000 := by simp only [List.length_cons]; omega
          have hcap := hsc.data.cap
          have SE := Lib.hid (segEnd (hlx.lb.sg (⟨f.name, f.first, 0 :: M⟩, ⟨q0, MB, MC⟩) (by simp)) hml)
          rw [hst] at SE
          have hltI : (x : Int) < (b.length : Int) := by omega
          have HJB : Hid (j + 1 ≤ b.length) := Lib.hid (by omega)
          have hj8 : j ≤ 100000000 := by omega
          have hWX := Lib.hid hsc.mods.size
          have HDB : Hid (∀ b, S b → b < w0.heap.size) := Lib.hid (fun b hb => HSD b hb)
          clear hsc hlx hff hk hbk hk' hbk' e1 e2 hj1 hj2 hR hM HS2 HSC t1 t2 hlow
          go_wp2_with (go_at_call 28; refine SE.out.mono ?_)
          first | rintro e w13 rfl n1 rfl | rintro e w13 ⟨rfl, n1, rfl⟩
          have HSO1 := Lib.hid (HSO.out.below (belowDrewN (Below.refl _ _) n1))
          have hs13 : wr.heap.size ≤ (wr.drewN n1).heap.size := (belowDrewN (Below.refl wr.heap.size wr) n1).size
          clear SE HSO
          generalize wr.drewN n1 = w13 at *
          have SE := Lib.hid (segEnd (HSO1.out.lx.lb.sg (⟨f.name, f.first, 0 :: M⟩, ⟨q0, MB, MC⟩) (by simp)) hml)
          rw [hst] at SE
          go_wp2_with (go_at_call 28; refine SE.out.mono ?_)
          first | rintro e w14 rfl n2 rfl | rintro e w14 ⟨rfl, n2, rfl⟩
          have HSO2 := Lib.hid (HSO1.out.below (belowDrewN (Below.refl _ _) n2))
          have hs14 : wr.heap.size ≤ (w13.drewN n2).heap.size := Nat.le_trans hs13 (belowDrewN (Below.refl w13.heap.size w13) n2).size
          clear SE HSO1
          generalize w13.drewN n2 = w14 at *
          have SN := Lib.hid (segNext (HSO2.out.lx.lb.sg (⟨f.name, f.first, 0 :: M⟩, ⟨q0, MB, MC⟩) (by simp)) hml (by simp only [List.length_cons]; omega))
          rw [hnxt] at SN
          go_wp2_with (go_at_call 54; refine SN.out.mono ?_)
          first | rintro e w15 rfl n3 rfl | rintro e w15 ⟨rfl, n3, rfl⟩
          have HSO3 := Lib.hid (HSO2.out.below (belowDrewN (Below.refl _ _) n3))
          have hs15 : wr.heap.size ≤ (w14.drewN n3).heap.size := Nat.le_trans hs14 (belowDrewN (Below.refl w14.heap.size w14) n3).size
          clear SN HSO2
          generalize w14.drewN n3 = w15 at *
          have WR := Lib.hid (walRecord DA dc b x (f.first + j) w15 HSO3.out.data.rb hcap.1 hcap.2 (by omega) (by omega))
          rw [hrec] at WR
          go_wp2_with (go_at_call 53; refine WR.out.mono ?_)
          rintro e w16 ⟨hb16, A', n', c', x', rfl, hall⟩
          obtain ⟨rfl, rfl, hrb, hrk⟩ := hall r nx rfl
          have HSO4 := Lib.hid (HSO3.out.below hb16)
          have hs16 : w15.heap.size ≤ w16.heap.size := hb16.size
          obtain ⟨i0b, hi0b, hz0b, hz1b, hz2b⟩ := info_parts tb_info
          have hb17 : Below w16.heap.size w16 (w16.alloc (.cells #[.slice A' r.length c'] TB)) := (Below.refl _ _).alloc (Nat.le_refl _) _
          have HC17 := Lib.hid ((Blk.new w16 #[.slice A' r.length c'] TB).cell (j := 0) (v := .slice A' r.length c') rfl)
          have HSO5 := Lib.hid (HSO4.out.below hb17)
          have HRB := Lib.hid (hrb.below hb17)
          have HRK : Hid (0 < r.length → ∀ b, A'.map (·.block) = some b → w15.heap.size ≤ b ∧ ∃ cs, Blk (w16.alloc (.cells #[.slice A' r.length c'] TB)) b 5 cs) := Lib.hid (fun h0 b hb => by
            obtain ⟨h1, cs, h2⟩ := hrk h0 b hb
            exact ⟨h1, cs, h2.kept hb17⟩)
          have hs17 : B ≤ (w16.alloc (.cells #[.slice A' r.length c'] TB)).heap.size := by have := hb17.size; have := HSO4.out.mods.size; omega
          have hs17b : w15.heap.size ≤ (w16.alloc (.cells #[.slice A' r.length c'] TB)).heap.size := by have := hb17.size; omega
          obtain ⟨xs, hxs⟩ : ∃ xs, xs = Y'.map recV := ⟨_, rfl⟩
          have hxl : xs.length = j := by rw [hxs, List.length_map, hYl]
          have HSV := HSO5.out.lx.lb.rv
          rw [← hxs] at HSV
          have HSV2 := Lib.hid HSV
          have c3 : w16.cell? ⟨p, 3, none⟩ = some (.slice RA' xs.length rc') := by
            have e : w16.cell? ⟨p, 3, none⟩ = some (.slice RA' R.length rc') := HSO4.out.lx.blk.cell 3 rfl
            rw [hRl, ← hxl] at e; exact e
          have HXS := Lib.hid hxs
          have HXL := Lib.hid hxl
          have hxl8 : xs.length ≤ 100000000 := by omega
          clear WR hall hrb hrk HSV hxs hxl HSO3 hb16 hb17 hst hnxt
          go_wp2_with (at_builtin; go_loud (refine wp_appendK _ rfl (.tmp 121) (.tmp 123) 22 TB rfl Tryz.underlying22 hi0b hz0b hz1b hz2b rfl B RA' rc' 1 w16.heap.size xs (.slice A' r.length c') rfl rfl HSV2.out HC17.out rfl (by omega) (by omega) hs17 ?_))
          intro ys m9 g9 c9 w18 hys hm9 ho9 hk9 hg9 hat9
          subst hm9
          have hat9' : RA'.map (·.block) = some g9 ∨ g9 = (w16.alloc (.cells #[.slice A' r.length c'] TB)).heap.size := by
            rcases hat9 with ⟨a, e1, e2⟩ | e1
            · exact .inl (by rw [e1, ← e2]; rfl)
            · exact .inr (by rw [e1]; simp)
          have hw0r := hWX.out
          have HADD := Lib.hid (HSO5.out.addRead (n := xs.length + 1) (g8 := g9) (n0 := w15.heap.size) HRB.out HRK.out hB (by omega) hs17b (fun b hb => by have := HDB.out b hb; omega) hg9 (by rw [← HXS.out]; exact ho9) hat9' (by rw [HXL.out]; exact congrArg (· + 1) hRl.symm))
          have m9' := Mods.of_grown (S := fun x => RA'.map (·.block) = some x) hg9 (fun _ h => h)
          have hp9 := HSO5.out.lx.blk.mods m9' (HSO5.out.lx.lb.rv.ne_blk HSO5.out.lx.blk (by decide))
          have y3 : w18.cell? ⟨p, 3, none⟩ = some (.slice RA' xs.length rc') := by
            have e : w18.cell? ⟨p, 3, none⟩ = some (.slice RA' R.length rc') := hp9.cell 3 rfl
            rw [hRl, ← HXL.out] at e; exact e
          have f3 : w18.frozen? ⟨p, 3, none⟩ = false := hp9.free 3
          clear hys ho9 hk9 hat9 hat9' m9' hp9 HSO5 HSO4 HRB HRK HC17 HSV2 hg9 c3
          go_upto_region 20 with fail
          clear y3 f3
          generalize w18.setCell ⟨p, 3, none⟩ (.slice (some ⟨g9, 0, none⟩) (xs.length + 1) c9) = w19 at *
          obtain ⟨i0, hi0, hz0, hz1, hz2⟩ := info_parts int_info
          have hsg := HADD.out.lx.lb.sg (⟨f.name, f.first, 0 :: M⟩, ⟨q0, MB, MC⟩) (by simp)
          obtain ⟨xm, hxm⟩ : ∃ xm, xm = (0 :: M).map encMark := ⟨_, rfl⟩
          have hxml : xm.length = j + 1 := by rw [hxm, List.length_map, List.length_cons, hMl]
          have z2 : w19.cell? ⟨q0, 2, none⟩ = some (.slice (some ⟨MB, 0, none⟩) xm.length MC) := by
            have e : w19.cell? ⟨q0, 2, none⟩ = some (.slice (some ⟨MB, 0, none⟩) (0 :: M).length MC) := hsg.blk.cell 2 rfl
            rw [List.length_cons, hMl, ← hxml] at e; exact e
          have hb20 : Below w19.heap.size w19 (w19.alloc (.cells #[.int .i64 (nx : Int)] 3)) := (Below.refl _ _).alloc (Nat.le_refl _) _
          have HC20 := Lib.hid ((Blk.new w19 #[.int .i64 (nx : Int)] 3).cell (j := 0) (v := .int .i64 (nx : Int)) rfl)
          have HSO6 := Lib.hid (HADD.out.below hb20)
          have HMV := HSO6.out.lx.lb.sg (⟨f.name, f.first, 0 :: M⟩, ⟨q0, MB, MC⟩) (by simp)
          have HMR := HMV.mr
          rw [show (Sg.mk f.name f.first (0 :: M)).marks.map encMark = xm from hxm.symm] at HMR
          have HMR2 := Lib.hid HMR
          have HXM := Lib.hid hxm
          have HXML := Lib.hid hxml
          have hxm8 : xm.length ≤ 100000001 := by omega
          have hs20 : B ≤ (w19.alloc (.cells #[.int .i64 (nx : Int)] 3)).heap.size := Nat.le_trans hB HSO6.out.mods.size
          clear hxm hxml HMR HMV hsg HADD hb20
          go_wp2_with (at_builtin; go_loud (refine wp_appendK _ rfl (.tmp 131) (.tmp 133) 71 3 rfl Tryz.underlying71 hi0 hz0 hz1 hz2 rfl B (some ⟨MB, 0, none⟩) MC 1 w19.heap.size xm (.int .i64 (nx : Int)) rfl rfl HMR2.out HC20.out rfl (by omega) (by omega) hs20 ?_))
          intro ys m10 g10 c10 w21 hys hm10 ho10 hk10 hg10 hat10
          subst hm10
          have hat11 : some MB = some g10 ∨ g10 = (w19.alloc (.cells #[.int .i64 (nx : Int)] 3)).heap.size := by
            rcases hat10 with e | e
            · exact .inl (by rw [e])
            · exact .inr (by rw [e]; simp)
          have HAM := Lib.hid (HSO6.out.addMark (Z1 := []) (v := nx) (n := xm.length + 1) rfl hg10 (by rw [show (Sg.mk f.name f.first (0 :: M)).marks.map encMark = xm from HXM.out.symm]; exact ho10) (by rw [show (Sg.mk f.name f.first (0 :: M)).marks.map encMark = xm from HXM.out.symm]; exact hk10) hat11 (by rw [HXML.out]; show j + 1 + 1 = (0 :: M).length + 1; rw [List.length_cons, hMl]) hB)
          have mm := Mods.of_grown (S := fun x => x = MB) hg10 (fun k e => by injection e with e; exact e.symm)
          have hsg6 := HSO6.out.lx.lb.sg (⟨f.name, f.first, 0 :: M⟩, ⟨q0, MB, MC⟩) (by simp)
          obtain ⟨csm, hmbk⟩ := hsg6.mblk
          have hq21 := hsg6.blk.mods mm (hsg6.blk.ne hmbk (by decide))
          have z2 : w21.cell? ⟨q0, 2, none⟩ = some (.slice (some ⟨MB, 0, none⟩) xm.length MC) := by
            have e : w21.cell? ⟨q0, 2, none⟩ = some (.slice (some ⟨MB, 0, none⟩) (0 :: M).length MC) := hq21.cell 2 rfl
            rw [List.length_cons, hMl, ← HXML.out] at e; exact e
          have f2 : w21.frozen? ⟨q0, 2, none⟩ = false := hq21.free 2
          have HNS : Hid (ScanAt B S F w0 p g l D f b DA dc q0 (j + 1) nx g10 c10 (w21.setCell ⟨q0, 2, none⟩ (.slice (some ⟨g10, 0, none⟩) (xm.length + 1) c10))) := Lib.hid (HNEW.out _ _ _ ⟨_, _, _, _, _, _, HAM.out.lx, HAM.out.ff⟩ HAM.out.data HAM.out.mods)
          have hm4 : Hid (∃ X c, (w21.setCell ⟨q0, 2, none⟩ (.slice (some ⟨g10, 0, none⟩) (xm.length + 1) c10)).cell? ⟨p, 3, none⟩ = some (.slice X (j + 1) c)) := Lib.hid ⟨_, _, by
            have e : (w21.setCell ⟨q0, 2, none⟩ (.slice (some ⟨g10, 0, none⟩) (xm.length + 1) c10)).cell? ⟨p, 3, none⟩ = some (.slice (some ⟨g9, 0, none⟩) (R ++ [r]).length c9) := HAM.out.lx.blk.cell 3 rfl
            rw [show (R ++ [r]).length = j + 1 from by rw [List.length_append, hRl]; rfl] at e
            exact e⟩
          clear hys ho10 hk10 hg10 hat10 hat11 mm hsg6 hmbk hq21 HSO6 HAM HMR2 HC20 HXM HXS hi0 hz0 hz1 hz2 hi0b hz0b hz1b hz2b HNEW
          go_wp2_with fail
          go_roundw
          case rel => exact ⟨j + 1, nx, g10, c10, HNS⟩
          case measure =>
            obtain ⟨X, c, e⟩ := hm4.out
            have e0 := hm3.out
            have := HJB.out
            simp only [e, e0]
            omega
        · have hsc := HS2.out
          have hxb2 : x = b.length := by have := hsc.low.2; omega
          subst hxb2
          obtain ⟨k, hk, _⟩ := hsc.rest
          have he := scan_end hk (.inl hlt)
          have hd := hsc.done he
          obtain ⟨F', Y', SA', sc', RA', rc', hlx, hff⟩ := hd.1
          have hst : Sg.stop ⟨f.name, f.first, 0 :: (scanF b f.first).2⟩ = b.length := hd.2
          have hml : (0 :: (scanF b f.first).2).length ≤ 1000000000 := by
            have h1 := congrArg List.length he.2
            rw [List.length_drop] at h1
            have := hsc.low
            simp only [List.length_cons, List.length_nil] at h1 ⊢
            omega
          have SE := Lib.hid (segEnd (hlx.lb.sg (⟨f.name, f.first, 0 :: (scanF b f.first).2⟩, ⟨q0, MB, MC⟩) (by simp)) hml)
          rw [hst] at SE
          have HLX := Lib.hid hlx
          have HFF := Lib.hid hff
          have HMD := Lib.hid hsc.mods
          clear hsc hk he hd hlx hff HS2 HSC
          go_wp2_with (go_at_call 28; refine SE.out.mono ?_)
          first | rintro e w13 rfl n1 rfl | rintro e w13 ⟨rfl, n1, rfl⟩
          have HLX2 := Lib.hid (HLX.out.below (belowDrewN (Below.refl _ _) n1))
          have HMD2 : Hid (Mods (fun x => S x ∨ F x) w0 (wr.drewN n1)) := Lib.hid (HMD.out.below (belowDrewN (Below.refl _ _) n1))
          clear SE HLX HMD
          generalize wr.drewN n1 = w13 at *
          have SE := Lib.hid (segEnd (HLX2.out.lb.sg (⟨f.name, f.first, 0 :: (scanF b f.first).2⟩, ⟨q0, MB, MC⟩) (by simp)) hml)
          rw [hst] at SE
          clear hst hml
          go_wp2_with (go_at_call 28; refine SE.out.mono ?_)
          first | rintro e w14 rfl n2 rfl | rintro e w14 ⟨rfl, n2, rfl⟩
          have HL3 : Hid (∃ F' Z' Y' SA' sc' RA' rc', LX B S F' (w13.drewN n2) p g l2 D Z' Y' SA' sc' RA' rc' ∧ (∀ x, F' x → F x ∨ w0.heap.size ≤ x) ∧ Mods (fun x => S x ∨ F x) w0 (w13.drewN n2)) := Lib.hid ⟨_, _, _, _, _, _, _, by rw [HL2.out]; exact HLX2.out.below (belowDrewN (Below.refl _ _) n2), HFF.out, HMD2.out.below (belowDrewN (Below.refl _ _) n2)⟩
          clear SE HLX2 HFF HMD2
          go_wp2_with fail
          go_roundw
          case rel => exact ⟨rfl, .inr ⟨by go_num, HL3⟩⟩
          case measure => simp [intOf]
    · -- behind it
      obtain ⟨F', Z', Y', SA', sc', RA', rc', hx, hf', hm⟩ := HL.out
      have hl2s : l2.segs.length = 1 := by rw [HL2.out]; rfl
      have c2 : wr.cell? ⟨p, 2, none⟩ = some (.slice SA' 1 sc') := by
        have e : wr.cell? ⟨p, 2, none⟩ = some (.slice SA' l2.segs.length sc') := hx.blk.cell 2 rfl
        rw [hl2s] at e; exact e
      have y0 : wr.cell? ⟨p, 0, none⟩ = some (.pointer (some ⟨g, 0, none⟩)) := hx.blk.cell 0 rfl
      have SY := Lib.hid (diskSyncC hx.lb.di (Nat.le_trans hcnt (by decide)))
      have HX2 := Lib.hid hx
      have HF2 := Lib.hid hf'
      have HM2 := Lib.hid hm
      clear hx hf' hm HL HX
      go_wp2_with (go_at_call 35; refine SY.out.mono ?_)
      rintro e w13 ⟨rfl, hd13, m13⟩
      have HF : Hid (LDone B S F w p g (.int .i64 q.1) q.2.1 q.2.2 (.returned (.int .i64 (syncD D).1)) w13) := Lib.hid (by
        have hsz := HM2.out.size
        have hx := HX2.out.disk (Nat.le_trans hB hsz) hd13 m13
        rw [HQ.out]
        refine ⟨rfl, _, _, ⟨_, _, _, _, _, _, hx⟩, fun b hb => ?_, HF2.out, HM2.out.trans m13 (fun i hi => .inl (.inl hi))⟩
        rcases hb with hb | hb
        · exact .inl hb
        · exact .inr (by have := hb.1; omega))
      clear HQ HX2 HM2 HF2 SY c2 y0 hd13 m13
      go_wp2_with fail
      go_ret
      exact HF.out
end
end Go.Proofs.YtjgonfnpfbifjaaGreatDoor
