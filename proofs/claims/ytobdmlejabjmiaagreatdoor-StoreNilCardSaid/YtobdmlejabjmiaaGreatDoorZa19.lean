/- Put together of: WalO, OpApp, PutNum, WalF. -/
import Derived.Test.YtobdmlejabjmiaaGreatDoorZa18
import Derived.Test.YtobdmlejabjmiaaGreatDoorZa02
import Derived.LaidEqlPtr
import Derived.Test.YtobdmlejabjmiaaGreatDoorZa01
import Derived.Test.YtobdmlejabjmiaaGreatDoorZa04
import Derived.Test.YtobdmlejabjmiaaGreatDoorZa09
import Derived.Deep.CutBlock
import Derived.Deep.DeepCutAuto
import Derived.OwnWalk
/- WalO: put together by merge.py of: WalP, WalE. -/
/- Contract of package wal's parts: strings.Split at a dot. -/
namespace Go.Proofs.YtobdmlejabjmiaaGreatDoor
open Go.RowKit
open Go.Lib (parseUintB decDigits)

/-- What the program's variables hold, for logs. -/
structure WEnv (B : Nat) (w : World) : Prop where
  se : SEnv B w
  max : ∃ m, ∀ w', Below B w w' → w'.cell? ⟨5, 0, none⟩ = some (.int .i64 m)
theorem WEnv.below {B : Nat} {w w' : World} (h : WEnv B w) (hb : Below B w w') : WEnv B w' := by
  obtain ⟨h1, ⟨m, h2⟩⟩ := h
  exact ⟨h1.below hb, m, fun v hv => h2 v (hb.trans hv)⟩
theorem WEnv.up {B B' : Nat} {w : World} (h : WEnv B w) (hB : B ≤ B') : WEnv B' w := by
  obtain ⟨h1, ⟨m, h2⟩⟩ := h
  exact ⟨h1.up hB, m, fun v hv => h2 v (hv.mono hB)⟩
/-- What parts answers. -/
def PartsE (o : Option (Nat × Nat)) (w : World) (e : Ending) (w' : World) : Prop :=
  Below w.heap.size w w' ∧ ∃ x y : Int, e = .returned (.tuple #[.int .u64 x, .int .u64 y, .bool o.isSome]) ∧ ∀ a b, o = some (a, b) → x = (a : Int) ∧ y = (b : Int)
end Go.Proofs.YtobdmlejabjmiaaGreatDoor
/- Package wal's Append: rows that are handed in; where its loops stand; a log's rows that grow. -/
namespace Go.Proofs.YtobdmlejabjmiaaGreatDoor
open Go.RowKit

/-- Rows of bytes that a call is handed: they lie outside of T. -/
structure RL (T : Nat → Prop) (w : World) (X : Option Addr) (L : List (Option Addr × Nat × List UInt8)) : Prop where
  rbb : RBB w X L
  row : 0 < L.length → ∀ b, X.map (·.block) = some b → ¬ T b
  rcs : ∀ y ∈ L, 0 < y.2.2.length → ∀ b, y.1.map (·.block) = some b → ¬ T b
theorem RV.mods {T : Nat → Prop} {w w' : World} {A : Option Addr} {xs : List Value} (h : RV w A xs) (m : Mods T w w') (hn : 0 < xs.length → ∀ k, A.map (·.block) = some k → ¬ T k) : RV w' A xs := by
  refine ⟨fun h0 => ?_⟩
  obtain ⟨b, off, e, hb, hc⟩ := h.at_ h0
  exact ⟨b, off, e, Nat.lt_of_lt_of_le hb m.size, fun j y hy => (m.cell (p := ⟨b, _, none⟩) hb (hn h0 b (by rw [e]; rfl))).trans (hc j y hy)⟩
theorem RL.mods {T U : Nat → Prop} {w w' : World} {X : Option Addr} {L : List (Option Addr × Nat × List UInt8)} (h : RL T w X L) (m : Mods U w w') (hU : ∀ b, b < w.heap.size → U b → T b) : RL T w' X L := by
  have h0 : 0 < (L.map fun t : Option Addr × Nat × List UInt8 => Value.slice t.1 t.2.2.length t.2.1).length → 0 < L.length := fun h => by simpa using h
  refine ⟨⟨h.rbb.reads.mods m (fun hl k hk hu => ?_), fun t ht => ⟨(h.rbb.each t ht).1.mods m (fun hl k hk hu => ?_), (h.rbb.each t ht).2⟩⟩, h.row, h.rcs⟩
  · obtain ⟨b, off, e, hb, _⟩ := h.rbb.reads.at_ hl
    have e2 : b = k := by rw [e] at hk; simpa using hk
    subst e2
    exact h.row (h0 hl) b hk (hU b hb hu)
  · obtain ⟨b, off, e, hb, _⟩ := (h.rbb.each t ht).1.at_ hl
    have e2 : b = k := by rw [e] at hk; simpa using hk
    subst e2
    exact h.rcs t ht hl b hk (hU b hb hu)
/-- What a log must be for its calls to be reckoned in ints. -/
structure Lg.fine (l : Lg) : Prop where
  seg : ∀ s ∈ l.segs, s.stop ≤ 100000000 ∧ s.marks.length ≤ 1000000 ∧ s.name.length ≤ 1000 ∧ s.first ≤ 1000000000000
  nx : l.next ≤ 1000000000000
  era : l.era ≤ 1000000000000
  sl : l.segs.length ≤ 1000000
  rl : l.recs.length ≤ 1000000
  rc : ∀ r ∈ l.recs, r.length ≤ 100000
section
variable {B g sc rc : Nat} {S F T S' F' : Nat → Prop} {w w1 wr w' : World} {l l' : Lg} {D D' : DSt} {Z Z1 : List (Sg × Pl)} {Y : List (List UInt8 × Option Addr × Nat)} {SA RA : Option Addr} {s s' : Sg} {z : Pl}
/-- Marks are written behind those that a log holds. -/
theorem LB.keepMarks (h : LB B S F w g D Z Y SA sc RA rc) {zm : Nat} {cs : Array Value} (hb : Blk w zm 3 cs) (hS : ¬ S zm) (m : Mods (· = zm) w w') (hz : ∀ z ∈ Z, z.2.m = zm → OV w' B 3 (some ⟨zm, 0, none⟩) z.2.c (z.1.marks.map encMark)) : LB B S F w' g D Z Y SA sc RA rc where
  di := h.di.mods m (fun b _ hs e => hS (by rw [← e]; exact hs))
  sv := h.sv.mods m (fun k hk e => h.sv.ne_blk hb (by decide) (by rw [hk, e]))
  rv := h.rv.mods m (fun k hk e => h.rv.ne_blk hb (by decide) (by rw [hk, e]))
  sg := fun z hz' => by
    by_cases e : z.2.m = zm
    · refine ⟨(h.sg z hz').blk.mods m ((h.sg z hz').blk.ne hb (by decide)), ?_, (h.sg z hz').pos⟩
      have := hz z hz' e
      rw [← e] at this
      exact this
    · exact (h.sg z hz').mods m ((h.sg z hz').blk.ne hb (by decide)) e
  rc := fun y hy => (h.rc y hy).mods m (fun h0 k hk e => by
    obtain ⟨cs', hc⟩ := h.yb y hy h0 k hk
    exact hc.ne hb (by decide) e)
  fs := h.fs
  fr := h.fr
  fq := h.fq
  fy := h.fy
  yb := fun y hy h0 b e => by
    obtain ⟨cs', hc⟩ := h.yb y hy h0 b e
    exact ⟨cs', hc.mods m (fun e' => hc.ne hb (by decide) e')⟩
  dis := h.dis
  bnd := fun b hb' => ⟨(h.bnd b hb').1, Nat.lt_of_lt_of_le (h.bnd b hb').2 m.size⟩
  sge := h.sge
  qn := h.qn
  mn := h.mn
/-- A segment more. -/
theorem LB.segAdd (h : LB B S F w g D Z Y SA sc RA rc) {SA' : Option Addr} {sc' : Nat} (hs : SgAt w' B s z) (m : Mods T w w') (hT : ∀ k, T k → SA.map (·.block) = some k ∨ w.heap.size ≤ k) (hsv : OV w' B TP SA' sc' (Z.map ptrV ++ [ptrV (s, z)])) (hF : ∀ b, F b → F' b) (hS : ∀ b, F' b → ¬ S b) (hB : ∀ b, F' b → B ≤ b ∧ b < w'.heap.size)
    (hsa : ∀ b, SA'.map (·.block) = some b → F' b) (hq : F' z.q ∧ F' z.m) (hqn : ∀ y ∈ Z, y.2.q ≠ z.q) (hmn : ∀ y ∈ Z, y.2.m ≠ z.m) : LB B S F' w' g D (Z ++ [(s, z)]) Y SA' sc' RA rc := by
  have hTs : ∀ k, k < w.heap.size → T k → SA.map (·.block) = some k := fun k hk ht => by
    rcases hT k ht with h1 | h1
    · exact h1
    · omega
  have hTb : ∀ {e : TypeId} {k : Nat} {cs : Array Value}, Blk w k e cs → TP ≠ e → ¬ T k := fun {e k cs} hb hne ht => by
    have h1 := hTs k hb.lt ht
    exact h.sv.ne_blk hb (Ne.symm hne) h1
  refine ⟨h.di.mods m (fun b hb hs' ht => ?_), by rw [List.map_append]; exact hsv, h.rv.mods m (fun k hk ht => ?_), ?_, ?_, hsa, fun b e => hF b (h.fr b e), ?_, fun y hy h0 b e => hF b (h.fy y hy h0 b e), ?_, hS, hB, h.sge, ?_, ?_⟩
  · exact h.dis b (h.fs b (hTs b hb ht)) hs'
  · rcases h.rv.cells with e | ⟨b, cs, e, hb⟩
    · rw [e] at hk; simp at hk
    · rw [e] at hk
      have : b = k := by simpa using hk
      subst this
      exact hTb hb (by decide) ht
  · intro y hy
    rcases List.mem_append.1 hy with hy | hy
    · have hy' := h.sg y hy
      obtain ⟨cs, hb⟩ := hy'.mblk
      exact hy'.mods m (hTb hy'.blk (by decide)) (hTb hb (by decide))
    · rw [List.mem_singleton.1 hy]; exact hs
  · exact fun y hy => (h.rc y hy).mods m (fun h0 k hk ht => by
      obtain ⟨cs', hc⟩ := h.yb y hy h0 k hk
      exact hTb hc (by decide) ht)
  · intro y hy
    rcases List.mem_append.1 hy with hy | hy
    · exact ⟨hF _ (h.fq y hy).1, hF _ (h.fq y hy).2⟩
    · rw [List.mem_singleton.1 hy]; exact hq
  · intro y hy h0 b e
    obtain ⟨cs', hc⟩ := h.yb y hy h0 b e
    exact ⟨cs', hc.mods m (hTb hc (by decide))⟩
  · rw [List.map_append, List.nodup_append]
    refine ⟨h.qn, by simp, fun a ha b hb => ?_⟩
    obtain ⟨y, hy, rfl⟩ := List.mem_map.1 ha
    have hb' : b = z.q := by simpa using hb
    rw [hb']; exact hqn y hy
  · rw [List.map_append, List.nodup_append]
    refine ⟨h.mn, by simp, fun a ha b hb => ?_⟩
    obtain ⟨y, hy, rfl⟩ := List.mem_map.1 ha
    have hb' : b = z.m := by simpa using hb
    rw [hb']; exact hmn y hy
/-- Where Append's second loop stands. -/
structure ApAt (B : Nat) (w1 wr : World) (z : Pl) (s : Sg) (A : Option Addr) (c : Nat) (bs : List UInt8) (mb mc : Nat) (ms : List Nat) : Prop where
  ob : OB wr w1.heap.size A c bs
  mr : OV wr B 3 (some ⟨mb, 0, none⟩) mc (ms.map encMark)
  old : OV wr B 3 (some ⟨z.m, 0, none⟩) z.c (s.marks.map encMark)
  pre : ∃ t, ms = s.marks ++ t
  mb : mb = z.m ∨ w1.heap.size ≤ mb
  zm : z.m < w1.heap.size
  mods : Mods (· = z.m) w1 wr
variable {A A' : Option Addr} {c c' mb mc : Nat} {bs bs' : List UInt8} {ms : List Nat}
theorem ApAt.mblk (h : ApAt B w1 wr z s A c bs mb mc ms) : ∃ cs, Blk wr mb 3 cs := by
  rcases h.mr.cells with e | ⟨g, cs, e, hb⟩
  · cases e
  · injection e with e; injection e with e _ _; subst e; exact ⟨cs, hb⟩
theorem ApAt.below (h : ApAt B w1 wr z s A c bs mb mc ms) (hb : Below wr.heap.size wr w') : ApAt B w1 w' z s A c bs mb mc ms :=
  ⟨h.ob.below hb, h.mr.below hb, h.old.below hb, h.pre, h.mb, h.zm, h.mods.below hb⟩
/-- The segment that Append writes to. -/
structure ToAt (B : Nat) (w : World) (l : Lg) (Z : List (Sg × Pl)) (z : Pl) (wx : World) : Prop where
  sg : SgAt wx B l.to z
  bel : Below w.heap.size w wx
  how : (l.fits = true ∧ ∃ Z1, Z = Z1 ++ [(l.to, z)]) ∨ (l.fits = false ∧ w.heap.size ≤ z.q ∧ w.heap.size ≤ z.m)
theorem ToAt.own {z : Pl} {wx : World} (h : ToAt B w l Z z wx) (hl : LB B S F w g D Z Y SA sc RA rc) : ∀ b, b < w.heap.size → (b = z.q ∨ b = z.m) → F b := by
  intro b hb he
  rcases h.how with ⟨_, Z1, hZ⟩ | ⟨_, h1, h2⟩
  · have := hl.fq (l.to, z) (by rw [hZ]; simp)
    rcases he with e | e <;> rw [e]
    · exact this.1
    · exact this.2
  · omega
theorem ToAt.ns {z : Pl} {wx : World} (h : ToAt B w l Z z wx) (hl : LB B S F w g D Z Y SA sc RA rc) : ¬ S z.q ∧ ¬ S z.m := by
  refine ⟨fun hs => ?_, fun hs => ?_⟩
  · have hb := hl.di.bnd _ hs
    exact hl.dis _ (h.own hl _ hb (.inl rfl)) hs
  · have hb := hl.di.bnd _ hs
    exact hl.dis _ (h.own hl _ hb (.inr rfl)) hs
theorem ApAt.sg (ht : SgAt w1 B s z) (ha : ApAt B w1 wr z s A c bs mb mc ms) : SgAt wr B s z := by
  obtain ⟨cs, hb⟩ := ht.mblk
  exact ⟨ht.blk.mods ha.mods (ht.blk.ne hb (by decide)), ha.old, ht.pos⟩
/-- A log, while marks are written behind its own. -/
theorem ApAt.lx {p : Nat} (h : LX B S F w p g l D Z Y SA sc RA rc) (ht : ToAt B w l Z z w1) (ha : ApAt B w1 wr z l.to A c bs mb mc ms) : LX B S F wr p g l D Z Y SA sc RA rc := by
  have h1 := h.lb.below ht.bel
  have hp1 := h.blk.kept ht.bel
  obtain ⟨cs, hb⟩ := ht.sg.mblk
  refine ⟨hp1.mods ha.mods (hp1.ne hb (by decide)), h.fp, h.zs, h.ys, h1.keepMarks hb (ht.ns h.lb).2 ha.mods fun z' hz' e => ?_⟩
  rcases ht.how with ⟨_, Z1, hZ⟩ | ⟨_, _, h3⟩
  · rw [hZ] at hz'
    rcases List.mem_append.1 hz' with hz' | hz'
    · exfalso
      have hn := h.lb.mn
      rw [hZ, List.map_append, List.nodup_append] at hn
      exact hn.2.2 _ (List.mem_map.2 ⟨z', hz', rfl⟩) z.m (by simp) e
    · rw [List.mem_singleton.1 hz']; exact ha.old
  · have := (h.lb.bnd _ (h.lb.fq z' hz').2).2
    omega
/-- A segment more, in the log's own variable too. -/
theorem LX.addSeg {p g8 c8 n : Nat} {w8 : World} (h : LX B S F w p g l D Z Y SA sc RA rc) (hB : B ≤ w.heap.size) (hs : SgAt w B s z) (hg : w.grownBy w8 (SA.map (·.block))) (ho : OV w8 B TP (some ⟨g8, 0, none⟩) c8 (Z.map ptrV ++ [ptrV (s, z)])) (hat : SA.map (·.block) = some g8 ∨ g8 = w.heap.size) (hn : n = l.segs.length + 1)
    (hF : ∀ b, F b → F' b) (hS : ∀ b, F' b → ¬ S b) (hb : ∀ b, F' b → B ≤ b ∧ b < w8.heap.size) (hg8 : F' g8) (hq : F' z.q ∧ F' z.m) (hqn : ∀ y ∈ Z, y.2.q ≠ z.q) (hmn : ∀ y ∈ Z, y.2.m ≠ z.m) :
    LX B S F' (w8.setCell ⟨p, 2, none⟩ (.slice (some ⟨g8, 0, none⟩) n c8)) p g { l with segs := l.segs ++ [s] } D (Z ++ [(s, z)]) Y (some ⟨g8, 0, none⟩) c8 RA rc := by
  have m : Mods (fun k => SA.map (·.block) = some k) w w8 := Mods.of_grown hg (fun k e => e)
  have hpn : ¬ SA.map (·.block) = some p := fun e => h.lb.sv.ne_blk h.blk (by decide) e
  have hp8 := h.blk.mods m hpn
  obtain ⟨cs, hmb⟩ := hs.mblk
  have hs8 : SgAt w8 B s z := hs.mods m (fun e => h.lb.sv.ne_blk hs.blk (by decide) e) (fun e => h.lb.sv.ne_blk hmb (by decide) e)
  have h8 := h.lb.segAdd (w' := w8) (SA' := some ⟨g8, 0, none⟩) (sc' := c8) hs8 m (fun k hk => .inl hk) ho hF hS hb (fun b e => by
    have e2 : g8 = b := by simpa using e
    rw [← e2]; exact hg8) hq hqn hmn
  have mp : Mods (· = p) w8 (w8.setCell ⟨p, 2, none⟩ (.slice (some ⟨g8, 0, none⟩) n c8)) := (Mods.refl (· = p) w8).setCell ⟨p, _, none⟩ (.inl rfl) _
  refine ⟨?_, hF _ h.fp, ?_, h.ys, h8.setP hp8 (hS _ (hF _ h.fp)) mp⟩
  · have h1 := hp8.setCell 2 (.slice (some ⟨g8, 0, none⟩) n c8)
    have e : (logV g l SA sc RA rc).setIfInBounds 2 (.slice (some ⟨g8, 0, none⟩) n c8) = logV g { l with segs := l.segs ++ [s] } (some ⟨g8, 0, none⟩) c8 RA rc := by
      subst hn; simp [logV]
    rw [e] at h1
    exact h1
  · rw [List.map_append, h.zs]; rfl
/-- Where the ways of Append meet again, ahead of the marks' store. -/
structure JoinAt (B : Nat) (S S5 F : Nat → Prop) (W : World) (p g : Nat) (l : Lg) (D : DSt) (Y : List (List UInt8 × Option Addr × Nat)) (RA : Option Addr) (rc : Nat) (z : Pl) (mb mc : Nat) (ms : List Nat) (wx : World) (Zi : List (Sg × Pl)) (SA : Option Addr) (sc : Nat) (F2 : Nat → Prop) : Prop where
  lx : LX B S5 F2 wx p g { l with segs := Zi.map Prod.fst ++ [l.to] } D (Zi ++ [(l.to, z)]) Y SA sc RA rc
  zi : Zi.map Prod.fst = if l.fits = true then l.segs.dropLast else l.segs
  f2 : ∀ b, F2 b → F b ∨ W.heap.size ≤ b
  fm : F2 mb
  mn : ∀ y ∈ Zi, y.2.m ≠ mb
  mods : Mods (fun b => S b ∨ F b) W wx
  mr : OV wx B 3 (some ⟨mb, 0, none⟩) mc (ms.map encMark)
/-- The segment that is written to is the log's last. -/
theorem JoinAt.same {S5 : Nat → Prop} {W wc : World} {D1 : DSt} {p mb mc : Nat} {ms : List Nat} (hx : LX B S5 F wc p g l D1 Z Y SA sc RA rc) (hZ : Z = Z1 ++ [(l.to, z)]) (hf : l.fits = true) (hmr : OV wc B 3 (some ⟨mb, 0, none⟩) mc (ms.map encMark))
    (hns : ¬ S5 mb) (hmb : B ≤ mb ∧ mb < wc.heap.size) (hw : mb = z.m ∨ W.heap.size ≤ mb) (h0 : LX B S F W p g l D Z Y SA sc RA rc) (hm : Mods (fun b => S b ∨ F b) W wc) :
    JoinAt B S S5 F W p g l D1 Y RA rc z mb mc ms wc Z1 SA sc (fun b => F b ∨ b = mb) := by
  subst hZ
  have hs : l.segs = Z1.map Prod.fst ++ [l.to] := by rw [← hx.zs]; simp
  have hfz := hx.lb.fq (l.to, z) (by simp)
  refine ⟨?_, ?_, fun b hb => ?_, .inr rfl, fun y hy e => ?_, hm, hmr⟩
  · rw [← hs]
    refine ⟨hx.blk, .inl hx.fp, hx.zs, hx.ys, hx.lb.wide (fun b hb => .inl hb) (fun b hb => ?_) (fun b hb => ?_)⟩
    · rcases hb with hb | rfl
      · exact hx.lb.dis b hb
      · exact hns
    · rcases hb with hb | rfl
      · exact hx.lb.bnd b hb
      · exact hmb
  · rw [if_pos hf, hs, List.dropLast_concat]
  · rcases hb with hb | rfl
    · exact .inl hb
    · rcases hw with e | e
      · rw [e]; exact .inl hfz.2
      · exact .inr e
  · rcases hw with e2 | e2
    · have := hx.lb.mn
      rw [List.map_append, List.nodup_append] at this
      exact this.2.2 y.2.m (List.mem_map.2 ⟨y, hy, rfl⟩) z.m (by simp) (by rw [e, e2])
    · have := (h0.lb.sg y (List.mem_append_left _ hy)).lt.2
      omega
end
end Go.Proofs.YtobdmlejabjmiaaGreatDoor


/- append inside a region that is walked by a plan. -/
namespace Go.Proofs.YtobdmlejabjmiaaGreatDoor
open Go.RowKit

end Go.Proofs.YtobdmlejabjmiaaGreatDoor


/- Contract of codec.PutNum. -/
namespace Go.Proofs.YtobdmlejabjmiaaGreatDoor
open Go.RowKit

set_option maxHeartbeats 400000 in
theorem putNumB (A : Option Addr) (c : Nat) (b : List UInt8) (n : Int) (w : World) (h : RB w A b) (hl : b.length ≤ 219000000000000) (h0 : 0 ≤ n) (h1 : n ≤ 18446744073709551615) :
    Calls Tryz.prog 98 #[.slice A b.length c, .int .u64 n] w (NewB w (b ++ putNum n.toNat)) := by
  have hk := bitLen_low n.toNat (by omega)
  have hk8 := low_len n.toNat
  have hb64 : Lib.bitLen n.toNat ≤ 64 := Lib.bitLen_le _ 64 (by omega) (by omega)
  have HK := Lib.hid hk
  clear hk
  go_enter Tryz.func98, Tryz.ntmps98
  go_wp2_with fail
  refine (len64 n _ h0 h1).mono ?_
  rintro e w' ⟨rfl, rfl⟩
  obtain ⟨bl, hbl⟩ : ∃ bl, bl = Lib.bitLen n.toNat := ⟨_, rfl⟩
  rw [← hbl]
  rw [← hbl] at hb64 HK
  clear hbl
  go_wp2_with fail
  refine (cloneB A c b _ h (by omega)).mono ?_
  rintro e w1 ⟨k1, A1, c1, hk1, hk2, hk3, rfl, ho1, hb1⟩
  go_wp2_with fail
  refine (clipB A1 c1 k1 _ ho1.cap.1 ho1.cap.2).mono ?_
  rintro e w' ⟨rfl, rfl⟩
  have x1 : (((bl : Int) + 7) / 8) ≤ 8 := by omega
  have x0 : 0 ≤ (((bl : Int) + 7) / 8) := by omega
  have V : ((bl : Int) + 7) / 8 = ((UInt8.ofNat ((bl + 7) / 8)).toNat : Int) := by rw [u8_of (by omega)]; omega
  have HV := Lib.hid V
  clear V
  go_wp2_with (at_builtin; refine wp_appendF _ rfl (.tmp 14) (.tmp 17) rfl w.heap.size _ _ _ _ k1 [UInt8.ofNat ((bl + 7) / 8)] rfl rfl ho1.none_len (ho1.rb.alloc _) (RB.one _ _ HV.out) (by simp) (by simp) (by simp; omega) (by have := hb1.size; simp; omega) ?_; intro k2 A2 c2 w2 hk2' hk21 hk22 ho2 hb2)
  have hkk : k2.length ≤ b.length + 1 := by simp at hk21; omega
  have H2 : Hid (k2 = b ++ UInt8.ofNat ((bl + 7) / 8) :: ((low n.toNat).drop ((bl + 7) / 8)).reverse) := Lib.hid (by
    rw [hk2'.out, hk1.out, HK.out, List.drop_length]; simp)
  have hb2' : Below w.heap.size w w2 := (hb1.alloc hb1.size _).trans (hb2.mono (by have := hb1.size; simp; omega))
  clear hk2' hk1 HV h ho1 hk21 hk22
  go_loopw [6, 7] (fun v i wr => ∃ (j : Nat) (k : List UInt8) (A : Option Addr) (cc : Nat), j ≤ (bl + 7) / 8 ∧ i = .int .i64 ((j : Int) - 1) ∧ v = .slice A k.length cc ∧ k.length + j ≤ b.length + 9 ∧
      Hid (k = b ++ UInt8.ofNat ((bl + 7) / 8) :: ((low n.toNat).drop j).reverse) ∧ OB wr w.heap.size A cc k ∧ Below w.heap.size w wr)
    (fun _ i _ => (intOf i + 1).toNat)
  case atStart => exact ⟨(bl + 7) / 8, k2, A2, c2, by omega, by go_num, rfl, by omega, H2, ho2, hb2'⟩
  case round =>
    obtain ⟨j, k, A3, c3, hj, rfl, rfl, hk9, hkk3, ho3, hb3⟩ := hrel
    by_cases hj0 : j = 0
    · subst hj0
      go_wp2_with fail
      go_ret
      exact newB (by rw [hkk3.out, HK.out]; simp [putNum]) ho3 hb3
    · obtain ⟨i, rfl⟩ : ∃ i, j = i + 1 := ⟨j - 1, by omega⟩
      clear hj0
      have HV := Lib.hid (shr_byte n i h0)
      go_wp2_with (at_builtin; refine wp_appendB _ rfl (.tmp 25) (.tmp 31) rfl w.heap.size _ _ _ _ k [UInt8.ofNat (n.toNat / 256 ^ i % 256)] rfl rfl (ho3.alloc _) (RB.one _ _ HV.out) (by simp; omega) (by have := hb3.size; simp; omega) ?_; intro k4 A4 c4 w4 hk4 hk41 hk42 ho4 hg4)
      have hk4b : k4.length ≤ k.length + 1 := by simpa using hk41
      have hb4 : Below w.heap.size w w4 := (hb3.alloc hb3.size _).grown hg4 (by have := hb3.size; simp; omega) fun g hg => (ho3.own_lt g hg).1
      have H4 : Hid (k4 = b ++ UInt8.ofNat ((bl + 7) / 8) :: ((low n.toNat).drop i).reverse) := Lib.hid (by
        have hi : i < (low n.toNat).length := by have := HK.out; omega
        rw [hk4.out, hkk3.out, drop_rev hi, low_get _ _ hi]; simp)
      clear hk4 hk41 hk42 hg4 HV hb3 ho3 hkk3
      go_roundw
      case rel => exact ⟨i, k4, A4, c4, by omega, by go_num, rfl, by omega, H4, ho4, hb4⟩
      case measure => simp [intOf]

end Go.Proofs.YtobdmlejabjmiaaGreatDoor


/- Contract of package wal's Append. -/
namespace Go.Proofs.YtobdmlejabjmiaaGreatDoor
open Go.RowKit

section
variable {B p g sc rc : Nat} {S F : Nat → Prop} {w w' : World} {l : Lg} {D : DSt} {Z : List (Sg × Pl)} {Y : List (List UInt8 × Option Addr × Nat)} {SA RA : Option Addr}
/-- What a call of the log ends in. -/
def LDone (B : Nat) (S F : Nat → Prop) (w : World) (p g : Nat) (v : Value) (l' : Lg) (D' : DSt) (e : Ending) (w' : World) : Prop :=
  e = .returned v ∧ ∃ S' F' : Nat → Prop, LR B S' F' w' p g l' D' ∧ (∀ b, S' b → S b ∨ w.heap.size ≤ b) ∧ (∀ b, F' b → F b ∨ w.heap.size ≤ b) ∧ Mods (fun b => S b ∨ F b) w w'
theorem int_info : (Tryz.prog.info? 3).map (fun i => (i.zero, i.size, i.bytes)) = some (some (.int .i64 0), 1, 8) := by kernel_rfl
theorem tp_info : (Tryz.prog.info? 159).map (fun i => (i.zero, i.size, i.bytes)) = some (some (.pointer none), 1, 8) := by kernel_rfl
theorem recB_len (n : Nat) (r : List UInt8) : (recB n r).length ≤ r.length + 17 := by
  unfold recB
  rw [frame_len, List.length_append]
  have := low_len n
  unfold putNum
  simp only [List.length_cons, List.length_reverse]
  omega
end
end Go.Proofs.YtobdmlejabjmiaaGreatDoor

