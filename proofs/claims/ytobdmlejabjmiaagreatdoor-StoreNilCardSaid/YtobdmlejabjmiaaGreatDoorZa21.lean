/- Put together of: WalB2, WalC3. -/
import Derived.Test.YtobdmlejabjmiaaGreatDoorZa20
import Derived.Test.YtobdmlejabjmiaaGreatDoorZa19
import Derived.Deep.CutBlock
import Derived.Deep.DeepCutAuto
import Derived.OwnWalk
import Derived.Test.YtobdmlejabjmiaaGreatDoorZa04
import Derived.Test.YtobdmlejabjmiaaGreatDoorZa09
/- WalB2: put together by merge.py of: WalI, WalR, WalT, WWalB. -/
/- Package wal's load on one file that fits and is whole. -/
namespace Go.Proofs.YtobdmlejabjmiaaGreatDoor
open Go.RowKit

abbrev TF : TypeId := 124
def fdRow (f : Fd) : List Value := [.string ⟨f.name.toArray⟩, .int .u64 (f.era : Int), .int .u64 (f.first : Int)]
section
variable {B p g sc rc : Nat} {S F : Nat → Prop} {w w' : World} {l : Lg} {D : DSt} {Z : List (Sg × Pl)} {Y : List (List UInt8 × Option Addr × Nat)} {SA RA : Option Addr} {s : Sg} {z : Pl}
/-- Where load's scan of a file stands: j of its records are taken in. -/
structure ScanAt (B : Nat) (S F : Nat → Prop) (w : World) (p g : Nat) (l : Lg) (D : DSt) (f : Fd) (b : List UInt8) (DA : Option Addr) (dc : Nat) (q j m : Nat) (MB MC : Nat) (wr : World) : Prop where
  lx : ∃ F' Y' SA' sc' RA' rc', LX B S F' wr p g { l with first := f.first, segs := [⟨f.name, f.first, 0 :: (scanF b f.first).2.take j⟩], recs := (scanF b f.first).1.take j } D [(⟨f.name, f.first, 0 :: (scanF b f.first).2.take j⟩, ⟨q, MB, MC⟩)] Y' SA' sc' RA' rc' ∧ ∀ x, F' x → F x ∨ w.heap.size ≤ x
  data : OB wr w.heap.size DA dc b
  stop : (0 :: (scanF b f.first).2.take j).getLastD 0 = m
  rest : ∃ k, scanR b k m (f.first + j) = ((scanF b f.first).1.drop j, (scanF b f.first).2.drop j) ∧ b.length ≤ m + k
  low : 8 * j ≤ m ∧ m ≤ b.length
  jl : j ≤ (scanF b f.first).1.length ∧ j ≤ (scanF b f.first).2.length
  mods : Mods (fun x => S x ∨ F x) w wr
/-- A log, and a file's bytes, while load scans them. -/
structure ScanO (B : Nat) (S F F' : Nat → Prop) (w : World) (p g : Nat) (l : Lg) (D : DSt) (Z : List (Sg × Pl)) (Y : List (List UInt8 × Option Addr × Nat)) (SA : Option Addr) (sc : Nat) (RA : Option Addr) (rc : Nat) (b : List UInt8) (DA : Option Addr) (dc : Nat) (wr : World) : Prop where
  lx : LX B S F' wr p g l D Z Y SA sc RA rc
  data : OB wr w.heap.size DA dc b
  mods : Mods (fun x => S x ∨ F x) w wr
  ff : ∀ x, F' x → F x ∨ w.heap.size ≤ x
section
variable {b : List UInt8} {DA : Option Addr} {dc : Nat} {wr wa : World} {F' : Nat → Prop}
theorem ScanO.below (h : ScanO B S F F' w p g l D Z Y SA sc RA rc b DA dc wr) (hb : Below wr.heap.size wr wa) : ScanO B S F F' w p g l D Z Y SA sc RA rc b DA dc wa :=
  ⟨h.lx.below hb, h.data.below hb, h.mods.below hb, h.ff⟩
end
end
end Go.Proofs.YtobdmlejabjmiaaGreatDoor
/- WalR: put together by merge.py of: WalP, WalQ. -/
/- Package wal's Open on a disk of one file, whose records are all good. -/
namespace Go.Proofs.YtobdmlejabjmiaaGreatDoor
open Go.RowKit

section
variable {B g : Nat} {S : Nat → Prop} {w w' : World} {D : DSt}
/-- Where Open stands behind its one file's name. -/
structure OpAt (B : Nat) (S : Nat → Prop) (w : World) (g : Nat) (na : Nm) (era n : Nat) (D : DSt) (xb : Nat) (wr : World) : Prop where
  lx : LX B S (· = w.heap.size) wr w.heap.size g { lg0 with era := era } D [] [] none 0 none 0
  lt : xb < wr.heap.size
  d0 : wr.cell? ⟨xb, 0, none⟩ = some (.string ⟨na.toArray⟩)
  d1 : wr.cell? ⟨xb, 1, none⟩ = some (.int .u64 (era : Int))
  d2 : wr.cell? ⟨xb, 2, none⟩ = some (.int .u64 (n : Int))
  bel : Below w.heap.size w wr
end
end Go.Proofs.YtobdmlejabjmiaaGreatDoor
/- Plain: Append on a log of one segment that was opened anew. -/
namespace Go.Proofs.YtobdmlejabjmiaaGreatDoor
open Go.Lib

theorem nameOk_wal {e n : Nat} (h : (decDigits e).length + (decDigits n).length ≤ 28) : nameOk (walName e n) = true := by
  unfold nameOk walName
  rw [Bool.and_eq_true, decide_eq_true_eq, List.all_eq_true]
  refine ⟨by simp only [List.length_append, List.length_cons, List.length_nil]; omega, fun c hc => ?_⟩
  simp only [List.append_assoc, List.mem_append, List.mem_cons, List.not_mem_nil, or_false] at hc
  rcases hc with (rfl | rfl) | hc | rfl | hc
  · decide
  · decide
  · exact set_of_range (.inr (dec_range e c hc))
  · decide
  · exact set_of_range (.inr (dec_range n c hc))
theorem refuse_room {D : DSt} {f : Nm} {x : List UInt8} {off : Nat} (hd : D.down = false) (hn : nameOk f = true) (ho : off ≤ 4194304) (hl : D.files.length < 4096)
    (hr : (fsize D.files : Int) + ((max ((fget D.files f).getD []).length (off + x.length) : Nat) - ((fget D.files f).getD []).length : Int) ≤ D.room) : refuseD D ⟨1, f, off, x⟩ (off : Int) = 0 := by
  unfold refuseD
  rw [if_neg (by rw [hd]; simp), if_neg (by rw [hn]; simp; omega), if_neg (by omega), if_neg]
  simp only [afterN, ↓reduceIte]
  rintro ⟨_, h2⟩
  omega
theorem putW_idle {D : DSt} {f : Nm} {x : List UInt8} {off : Nat} (hd : D.down = false) (hf : D.fuse = 0) (hr : refuseD D ⟨1, f, off, x⟩ (off : Int) = 0) : putW D f off x = (0, { D with unsure := D.unsure ++ [⟨1, f, off, x⟩] }) := by
  have hb : burnD D = D := by unfold burnD; rw [if_neg (by omega)]
  unfold putW changeD
  rw [if_neg (by rw [hr]; simp), hb, if_neg (by rw [hd]; simp)]
end Go.Proofs.YtobdmlejabjmiaaGreatDoor
/- WalT: put together by merge.py of: WalJ, WalK. -/
/- The law's whole: copies of rows. -/
namespace Go.Proofs.YtobdmlejabjmiaaGreatDoor
open Go.RowKit

/-- Rows of bytes, all of the call's own. -/
structure RowsB (w : World) (B : Nat) (A : Option Addr) (c : Nat) (Y : List (List UInt8 × Option Addr × Nat)) : Prop where
  rv : OV w B TB A c (Y.map recV)
  rc : ∀ y ∈ Y, OB w B y.2.1 y.2.2 y.1
section
variable {B c : Nat} {T : Nat → Prop} {w w' : World} {A : Option Addr} {Y : List (List UInt8 × Option Addr × Nat)}
theorem RowsB.below (h : RowsB w B A c Y) (hb : Below w.heap.size w w') : RowsB w' B A c Y := ⟨h.rv.below hb, fun y hy => (h.rc y hy).below hb⟩
theorem RowsB.add {A' : Option Addr} {c' : Nat} {y : List UInt8 × Option Addr × Nat} (h : RowsB w B A c Y) (ho : OB w B y.2.1 y.2.2 y.1) (hg : w.grownBy w' (A.map (·.block))) (hr : OV w' B TB A' c' (Y.map recV ++ [recV y])) : RowsB w' B A' c' (Y ++ [y]) := by
  have m : Mods (fun k => A.map (·.block) = some k) w w' := Mods.of_grown hg (fun k e => e)
  have ne : ∀ (x : List UInt8 × Option Addr × Nat), OB w B x.2.1 x.2.2 x.1 → OB w' B x.2.1 x.2.2 x.1 := fun x hx => hx.mods m (fun k hk e => by
    obtain ⟨cs, hb⟩ := hx.blk k hk
    exact h.rv.ne_blk hb (by decide) e)
  refine ⟨by rw [List.map_append]; exact hr, fun x hx => ?_⟩
  rcases List.mem_append.1 hx with hx | hx
  · exact ne x (h.rc x hx)
  · rw [List.mem_singleton.1 hx]; exact ne y ho
/-- Such rows, handed to Append. -/
theorem RowsB.rl (h : RowsB w B A c Y) (hT : ∀ b, T b → b < B) (hl : ∀ y ∈ Y, y.1.length ≤ 140737488355328) : RL T w A (Y.map fun y => (y.2.1, y.2.2, y.1)) := by
  refine ⟨⟨?_, fun t ht => ?_⟩, fun _ b hb ht => ?_, fun t ht _ b hb h2 => ?_⟩
  · rw [List.map_map]; exact h.rv.rv
  · obtain ⟨y, hy, rfl⟩ := List.mem_map.1 ht
    exact ⟨(h.rc y hy).rb, hl y hy⟩
  · have := (h.rv.blk_lt b hb).1
    have := hT b ht
    omega
  · obtain ⟨y, hy, rfl⟩ := List.mem_map.1 ht
    have := ((h.rc y hy).blk_in b hb).1
    have := hT b h2
    omega
/-- What whole ends in. -/
def WholeE (B : Nat) (w : World) (L : List (List UInt8)) (e : Ending) (w' : World) : Prop :=
  ∃ A c Y, e = .returned (.tuple #[.slice A Y.length c, .bool (L.all fun r => decide (r.length ≤ 65520))]) ∧ Y.map Prod.fst = L ∧ RowsB w' B A c Y ∧ Below w.heap.size w w'
end
end Go.Proofs.YtobdmlejabjmiaaGreatDoor
/- The law's alike: a log and a model that hold the same. -/
namespace Go.Proofs.YtobdmlejabjmiaaGreatDoor
open Go.RowKit

section
variable {B p g sc rc mb : Nat} {S F : Nat → Prop} {w w' : World} {l : Lg} {D : DSt} {Z : List (Sg × Pl)} {Y : List (List UInt8 × Option Addr × Nat)} {SA RA : Option Addr}
end
end Go.Proofs.YtobdmlejabjmiaaGreatDoor
/- The walk of WalBack. -/
namespace Go.Proofs.YtobdmlejabjmiaaGreatDoor
open Go.RowKit

section
variable {B c : Nat} {T T0 U : Nat → Prop} {w w' : World} {A X : Option Addr} {L : List (Option Addr × Nat × List UInt8)}
/-- Rows of the call's own, told as they are handed to Append. -/
structure RowsL (w : World) (B : Nat) (A : Option Addr) (c : Nat) (L : List (Option Addr × Nat × List UInt8)) : Prop where
  rv : OV w B TB A c (L.map fun t => .slice t.1 t.2.2.length t.2.1)
  rc : ∀ t ∈ L, OB w B t.1 t.2.1 t.2.2 ∧ t.2.2.length ≤ 140737488355328
theorem RowsL.below (h : RowsL w B A c L) (hb : Below w.heap.size w w') : RowsL w' B A c L := ⟨h.rv.below hb, fun y hy => ⟨(h.rc y hy).1.below hb, (h.rc y hy).2⟩⟩
theorem RowsL.rl (h : RowsL w B A c L) (hT : ∀ b, T b → b < B ∨ w.heap.size ≤ b) : RL T w A L := by
  refine ⟨⟨h.rv.rv, fun t ht => ⟨(h.rc t ht).1.rb, (h.rc t ht).2⟩⟩, fun _ b hb ht => ?_, fun t ht _ b hb h2 => ?_⟩
  · have := h.rv.blk_lt b hb
    have := hT b ht
    omega
  · have := (h.rc t ht).1.blk_in b hb
    have := hT b h2
    omega
def lenSum (L : List (Option Addr × Nat × List UInt8)) (k : Nat) : Nat := ((L.take k).map fun t => t.2.2.length).sum
end
end Go.Proofs.YtobdmlejabjmiaaGreatDoor


/- WalC3: put together by merge.py of: WalU, WalV, WalX, WalY. -/
/- Package wal: rows of a log that are cut and copied; slices.Clone of rows of one cell each. -/
namespace Go.Proofs.YtobdmlejabjmiaaGreatDoor
open Go.RowKit

/-- What slices.Clone of such a row ends in. -/
def CloneE (T : TypeId) (xs : List Value) (w : World) (e : Ending) (w' : World) : Prop :=
  ∃ A c n, n = xs.length ∧ e = .returned (.slice A n c) ∧ OV w' w.heap.size T A c xs ∧ Below w.heap.size w w'
section
variable {B p g sc rc : Nat} {S F F' T : Nat → Prop} {w w' : World} {l l' : Lg} {D D' : DSt} {Z Z' Z1 Z2 : List (Sg × Pl)} {Y Y' : List (List UInt8 × Option Addr × Nat)} {SA RA SA' RA' : Option Addr} {s s' : Sg} {z : Pl} {sc' rc' n : Nat}
/-- What lies above n is the log's own too. -/
theorem LX.wideN (h : LX B S F w p g l D Z Y SA sc RA rc) (hB : B ≤ n) (hS : ∀ b, S b → b < n) : LX B S (fun b => F b ∨ (n ≤ b ∧ b < w.heap.size)) w p g l D Z Y SA sc RA rc :=
  ⟨h.blk, .inl h.fp, h.zs, h.ys, h.lb.wide (fun b hb => .inl hb) (fun b hb => hb.elim (h.lb.dis b) (fun hb hs => by have := hS b hs; omega)) (fun b hb => hb.elim (h.lb.bnd b) (fun hb => ⟨by omega, hb.2⟩))⟩
end
end Go.Proofs.YtobdmlejabjmiaaGreatDoor
/- Package wal's Drop. -/
namespace Go.Proofs.YtobdmlejabjmiaaGreatDoor
open Go.RowKit

/-- Segments that follow one another, from a number to a number. -/
def SegsCh : List Sg → Nat → Nat → Prop
  | [], f, n => f = n
  | s :: r, f, n => s.first = f ∧ 0 < s.marks.length ∧ SegsCh r (f + (s.marks.length - 1)) n
theorem SegsCh.le : ∀ {L : List Sg} {f n : Nat}, SegsCh L f n → f ≤ n
  | [], f, n, h => Nat.le_of_eq h
  | s :: r, f, n, h => by have := h.2.2.le; omega
def Lg.chain (l : Lg) : Prop := SegsCh l.segs l.first l.next
theorem files_len (D : DSt) : D.files.length ≤ D.cnt := by
  unfold DSt.files DSt.cnt
  generalize D.sure = F
  induction D.unsure generalizing F with
  | nil => simp
  | cons u t ih =>
    rw [List.foldl_cons, List.length_cons]
    have h1 := ih (doF F u)
    have h2 := doF_len F u
    omega
theorem syncD_cnt (D : DSt) : (syncD D).2.cnt ≤ D.cnt := by
  unfold syncD
  split
  · exact Nat.le_refl _
  · split
    · unfold DSt.cnt; rw [burnD_sure, burnD_unsure]; exact Nat.le_refl _
    · have := files_len D
      show D.files.length + 0 ≤ _
      omega
theorem fell_ok {l : Lg} (h : l.down = false) : l.fell 0 = l := by
  unfold Lg.fell
  rw [h]
  exact lup_same l h
theorem syncW_ok {l : Lg} {D : DSt} (hd : l.down = false) (h : (syncW l D).1 = 0) : (syncW l D).2.1 = l ∧ (syncW l D).2.2.cnt ≤ D.cnt := by
  unfold syncW at h ⊢
  rw [if_neg (by rw [hd]; simp)] at h ⊢
  simp only at h ⊢
  rw [h]
  exact ⟨fell_ok hd, syncD_cnt D⟩
section
variable {B p g sc rc : Nat} {S F F' T : Nat → Prop} {w w' wr : World} {l l' : Lg} {D D' : DSt} {Z Z' Z1 Z2 : List (Sg × Pl)} {Y Y' : List (List UInt8 × Option Addr × Nat)} {SA RA SA' RA' : Option Addr} {s s' : Sg} {z : Pl} {sc' rc' n : Nat}
/-- What a log must be for Drop and Cut to be reckoned in ints. -/
structure Lg.fineD (l : Lg) : Prop where
  nm : ∀ s ∈ l.segs, s.name.length ≤ 1000 ∧ s.marks.length ≤ 1000000
  nx : l.next ≤ 1000000000000
  sl : l.segs.length ≤ 1000000
  rl : l.recs.length ≤ 1000000
/-- Where Drop's loop stands. -/
structure DrpAt (B : Nat) (S F : Nat → Prop) (w : World) (p g : Nat) (upto : Nat) (r : Int × Lg × DSt) (wr : World) (S' F' : Nat → Prop) (lk : Lg) (Dk : DSt) (Z : List (Sg × Pl)) (Y : List (List UInt8 × Option Addr × Nat)) (SA : Option Addr) (sc : Nat) (RA : Option Addr) (rc : Nat) (k : Nat) : Prop where
  lx : LX B S' F' wr p g lk Dk Z Y SA sc RA rc
  ss : ∀ b, S' b → S b ∨ w.heap.size ≤ b
  ff : ∀ b, F' b → F b ∨ w.heap.size ≤ b
  mods : Mods (fun b => S b ∨ F b) w wr
  eq : r = dropLoop upto k lk Dk
  fuel : lk.segs.length ≤ k
  up : lk.down = false
  ch : lk.chain
  fine : lk.fineD
  cnt : Dk.cnt + lk.segs.length ≤ 500000
theorem OV.get {w : World} {B c b j : Nat} {e : TypeId} {xs : List Value} {v : Value} (h : OV w B e (some ⟨b, 0, none⟩) c xs) (hv : xs[j]? = some v) : w.cell? ⟨b, j, none⟩ = some v := by
  obtain ⟨b', off', e', _, hc⟩ := h.rv.at_ (by
    have := (List.getElem?_eq_some_iff.1 hv).1
    omega)
  injection e' with e'
  injection e' with e1 e2 _
  subst e1 e2
  have := hc j v hv
  rwa [Nat.zero_add] at this
end
end Go.Proofs.YtobdmlejabjmiaaGreatDoor
/- Package wal's Cut. -/
namespace Go.Proofs.YtobdmlejabjmiaaGreatDoor
open Go.RowKit

theorem str_info3 : (Tryz.prog.info? 9).map (fun i => (i.zero, i.size, i.bytes)) = some (some (.string ⟨#[]⟩), 1, 16) := by kernel_rfl
/-- Cut's search from above: the last segment that begins no later. -/
def downTo (t : Nat) (L : List Sg) : Nat → Nat
  | 0 => 0
  | k + 1 => if t < ((L[k + 1]?).map Sg.first).getD 0 then downTo t L k else k + 1
def wcutC (l : Lg) (D : DSt) (t k : Nat) : Int × Lg × DSt :=
  if (syncW l D).1 ≠ 0 then syncW l D
  else removeW ((l.segs.drop k).map Sg.name) { (syncW l D).2.1 with segs := l.segs.take k, recs := l.recs.take (t - l.first) } (syncW l D).2.2
def wcutB (l : Lg) (D : DSt) (t k : Nat) (s : Sg) : Int × Lg × DSt :=
  if 0 < t - s.first ∨ k = 0 then
    if (cutS D s.name (s.marks.getD (t - s.first) 0)).1 ≠ 0 then ((cutS D s.name (s.marks.getD (t - s.first) 0)).1, l.fell (cutS D s.name (s.marks.getD (t - s.first) 0)).1, (cutS D s.name (s.marks.getD (t - s.first) 0)).2)
    else wcutC { l with segs := l.segs.set k { s with marks := s.marks.take (t - s.first + 1) } } (cutS D s.name (s.marks.getD (t - s.first) 0)).2 t (k + 1)
  else if (rmD D s.name).1 ≠ 0 then ((rmD D s.name).1, l.fell (rmD D s.name).1, (rmD D s.name).2)
  else wcutC l (rmD D s.name).2 t k
def wcutA (l : Lg) (D : DSt) (t : Nat) : Int × Lg × DSt :=
  match l.segs[downTo t l.segs (l.segs.length - 1)]? with
  | some s => wcutB l D t (downTo t l.segs (l.segs.length - 1)) s
  | none => (0, l, D)
def wcutW (l : Lg) (D : DSt) (t : Nat) : Int × Lg × DSt :=
  if l.down = true then (11, l, D) else if t < l.first then (13, l, D) else if l.next < t then (12, l, D) else if t = l.next then syncW l D
  else if (syncW l D).1 ≠ 0 then syncW l D
  else wcutA (syncW l D).2.1 (syncW l D).2.2 t
theorem SegsCh.get : ∀ {L : List Sg} {f n k : Nat} {s : Sg}, SegsCh L f n → L[k]? = some s → f ≤ s.first ∧ 0 < s.marks.length ∧ s.first + (s.marks.length - 1) ≤ n ∧ (k + 1 = L.length → s.first + (s.marks.length - 1) = n) ∧ (∀ t, L[k + 1]? = some t → t.first = s.first + (s.marks.length - 1)) ∧ (k = 0 → s.first = f)
  | [], f, n, k, s, h, e => by simp at e
  | a :: r, f, n, 0, s, h, e => by
    simp only [List.getElem?_cons_zero, Option.some.injEq] at e
    subst e
    obtain ⟨h1, h2, h3⟩ := h
    refine ⟨by omega, h2, by have := h3.le; omega, fun e => ?_, fun t ht => ?_, fun _ => h1⟩
    · have : r = [] := by
        cases r with
        | nil => rfl
        | cons b t => simp at e
      subst this
      have h4 : f + (a.marks.length - 1) = n := h3
      omega
    · cases r with
      | nil => simp at ht
      | cons b r =>
        simp only [List.getElem?_cons_succ, List.getElem?_cons_zero, Option.some.injEq] at ht
        subst ht
        have := h3.1
        omega
  | a :: r, f, n, k + 1, s, h, e => by
    obtain ⟨h1, h2, h3⟩ := h
    rw [List.getElem?_cons_succ] at e
    obtain ⟨g1, g2, g3, g4, g5, g6⟩ := h3.get e
    refine ⟨by omega, g2, g3, fun e' => g4 (by simp only [List.length_cons] at e'; omega), fun t ht => g5 t (by rw [List.getElem?_cons_succ] at ht; exact ht), fun e' => by omega⟩
section
variable {B p g sc rc : Nat} {S F F' T : Nat → Prop} {w w' wr : World} {l l' : Lg} {D D' : DSt} {Z Z' Z1 Z2 : List (Sg × Pl)} {Y Y' : List (List UInt8 × Option Addr × Nat)} {SA RA SA' RA' : Option Addr} {s s' : Sg} {z : Pl} {sc' rc' n : Nat}
end
end Go.Proofs.YtobdmlejabjmiaaGreatDoor
/- Plain: what a log of records of few bytes comes to behind Append, Sync, Drop and Cut. -/
namespace Go.Proofs.YtobdmlejabjmiaaGreatDoor
open Go.Lib

/-- A disk on which all goes well. -/
structure DOk (D : DSt) (c : Nat) : Prop where
  dd : D.down = false
  fu : D.fuse = 0
  ro : D.room = 4000000
  cn : D.cnt ≤ c
  fs : ∀ p ∈ D.files, p.2.length ≤ 2000
theorem fsize_le : ∀ (F : FS), (∀ p ∈ F, p.2.length ≤ 2000) → fsize F ≤ F.length * 2000
  | [], _ => by simp [fsize]
  | p :: r, h => by
    have h1 := fsize_le r (fun q hq => h q (List.mem_cons_of_mem _ hq))
    have h2 := h p (List.mem_cons_self ..)
    unfold fsize at h1 ⊢
    simp only [List.map_cons, List.sum_cons, List.length_cons]
    omega
theorem files_snoc (D : DSt) (u : Wr) : ({ D with unsure := D.unsure ++ [u] } : DSt).files = doF D.files u := by
  unfold DSt.files
  rw [List.foldl_append]
  rfl
section
variable {D : DSt} {c : Nat} {f : Nm} {x : List UInt8} {off : Nat} {l : Lg}
theorem DOk.snoc (h : DOk D c) (u : Wr) (hu : ∀ p ∈ doF D.files u, p.2.length ≤ 2000) : DOk { D with unsure := D.unsure ++ [u] } (c + 1) :=
  ⟨h.dd, h.fu, h.ro, by have := h.cn; unfold DSt.cnt at this ⊢; simp only [List.length_append, List.length_cons, List.length_nil]; omega, by rw [files_snoc]; exact hu⟩
theorem DOk.room (h : DOk D c) (hc : c ≤ 900) (k : Nat) (hk : k ≤ 3000) : (fsize D.files : Int) + (k : Int) ≤ D.room ∧ D.files.length < 4096 := by
  have h1 := fsize_le D.files h.fs
  have h2 := files_len D
  have h3 := h.cn
  rw [h.ro]
  omega
theorem DOk.put (h : DOk D c) (hc : c ≤ 900) (hn : nameOk f = true) (ho : off + x.length ≤ 2000) : ∃ D', putW D f off x = (0, D') ∧ DOk D' (c + 1) := by
  obtain ⟨h1, h2⟩ := h.room hc (off + x.length) (by omega)
  refine ⟨_, putW_idle h.dd h.fu (refuse_room h.dd hn (by omega) h2 (by omega)), h.snoc _ (fun p hp => ?_)⟩
  unfold doF at hp
  rw [if_pos rfl] at hp
  rcases fset_mem hp with rfl | hp
  · have hl : ((fget D.files f).getD []).length ≤ 2000 := by
      rcases e : fget D.files f with _ | b
      · simp
      · exact h.fs _ (fget_mem e)
    show (putD ((fget D.files f).getD []) off x).length ≤ 2000
    rw [putD_len]
    omega
  · exact h.fs p hp
theorem DOk.rm (h : DOk D c) (hn : nameOk f = true) : ∃ D', rmD D f = (0, D') ∧ DOk D' (c + 1) := by
  refine ⟨_, rm_idle h.dd h.fu hn, h.snoc _ (fun p hp => ?_)⟩
  unfold doF at hp
  rw [if_neg (by simp), if_neg (by simp), if_pos rfl] at hp
  unfold fdel at hp
  exact h.fs p (List.mem_filter.1 hp).1
theorem DOk.sync (h : DOk D c) (hl : l.down = false) : ∃ D', syncW l D = (0, l, D') ∧ DOk D' c := by
  refine ⟨{ D with sure := D.files, unsure := [] }, ?_, ⟨h.dd, h.fu, h.ro, ?_, h.fs⟩⟩
  · unfold syncW syncD
    rw [if_neg (by rw [hl]; simp), if_neg (by rw [h.dd]; simp), burn_idle h.fu, if_neg (by rw [h.dd]; simp)]
    show (0, l.fell 0, _) = _
    rw [fell_ok hl]
  · have h1 := files_len D
    have h2 := h.cn
    show D.files.length + 0 ≤ c
    omega
theorem DOk.remove : ∀ {NL : List Nm} {D : DSt} {c : Nat}, DOk D c → l.down = false → (∀ f ∈ NL, nameOk f = true) → ∃ D', removeW NL l D = (0, l, D') ∧ DOk D' (c + NL.length)
  | [], D, c, h, hl, _ => by rw [removeW]; exact h.sync hl
  | f :: r, D, c, h, hl, hn => by
    obtain ⟨D1, e1, h1⟩ := h.rm (hn f (List.mem_cons_self ..))
    obtain ⟨D2, e2, h2⟩ := DOk.remove (NL := r) h1 hl (fun g hg => hn g (List.mem_cons_of_mem _ hg))
    refine ⟨D2, ?_, by rw [List.length_cons, show c + (r.length + 1) = c + 1 + r.length from by omega]; exact h2⟩
    rw [removeW, e1, if_neg (by simp), fell_ok hl]
    exact e2
end
theorem chain_snoc : ∀ {A : List Sg} {s : Sg} {f n : Nat}, SegsCh (A ++ [s]) f n ↔ ∃ m, SegsCh A f m ∧ s.first = m ∧ 0 < s.marks.length ∧ m + (s.marks.length - 1) = n
  | [], s, f, n => by
    constructor
    · rintro ⟨h1, h2, h3⟩
      exact ⟨f, rfl, h1, h2, h3⟩
    · rintro ⟨m, h0, h1, h2, h3⟩
      have e : f = m := h0
      subst e
      exact ⟨h1, h2, h3⟩
  | a :: A, s, f, n => by
    constructor
    · rintro ⟨h1, h2, h3⟩
      obtain ⟨m, g1, g2, g3, g4⟩ := chain_snoc.1 h3
      exact ⟨m, ⟨h1, h2, g1⟩, g2, g3, g4⟩
    · rintro ⟨m, ⟨h1, h2, g1⟩, g2, g3, g4⟩
      exact ⟨h1, h2, chain_snoc.2 ⟨m, g1, g2, g3, g4⟩⟩
/-- How many bytes so many records hold, from one on. -/
def bytesOf (L : List (List UInt8)) (i k : Nat) : Nat := (((L.drop i).take k).map List.length).sum
theorem bytesOf_succ (L : List (List UInt8)) {i k : Nat} (h : i + k < L.length) : bytesOf L i (k + 1) = bytesOf L i k + L[i + k].length := by
  unfold bytesOf
  have e : (L.drop i)[k]? = some L[i + k] := by rw [List.getElem?_drop, List.getElem?_eq_getElem h]
  rw [List.take_add_one, e, List.map_append, List.sum_append]
  simp
theorem bytesOf_mono (L : List (List UInt8)) (i : Nat) {j k : Nat} (h : j ≤ k) : bytesOf L i j ≤ bytesOf L i k := by
  induction k with
  | zero => obtain rfl : j = 0 := by omega
            exact Nat.le_refl _
  | succ k ih =>
    by_cases hj : j = k + 1
    · subst hj; exact Nat.le_refl _
    · have h1 := ih (by omega)
      by_cases hk : i + k < L.length
      · rw [bytesOf_succ L hk]; omega
      · have e : bytesOf L i (k + 1) = bytesOf L i k := by
          unfold bytesOf
          rw [List.take_of_length_le (by rw [List.length_drop]; omega), List.take_of_length_le (by rw [List.length_drop]; omega)]
        omega
/-- A segment that holds few bytes: its records are those of L from its first number on (numbers from 1). -/
structure SegFew (L : List (List UInt8)) (s : Sg) : Prop where
  name : s.name = walName 0 s.first
  f1 : 1 ≤ s.first ∧ s.first ≤ 1000
  tot : bytesOf L (s.first - 1) (s.marks.length - 1) ≤ s.stop
  few : bytesOf L (s.first - 1) (s.marks.length - 2) < 512
  stop : s.stop ≤ 1100
  mks : ∀ m ∈ s.marks, m ≤ 1100
/-- A log that holds the first n records of L, from its first number on. -/
structure WOk (L : List (List UInt8)) (n : Nat) (l : Lg) : Prop where
  era : l.era = 0
  dn : l.down = false
  f1 : 1 ≤ l.first ∧ l.first ≤ n + 1
  recs : l.recs = (L.take n).drop (l.first - 1)
  ne : l.segs ≠ []
  ch : SegsCh l.segs l.first (n + 1)
  sg : ∀ s ∈ l.segs, SegFew L s
  sl : l.segs.length ≤ n + 1
theorem SegFew.ok {L : List (List UInt8)} {s : Sg} (h : SegFew L s) : nameOk s.name = true := by
  rw [h.name]
  refine nameOk_wal ?_
  have h2 := nDigits_le (u := s.first) (by have := h.f1; omega)
  have h3 : (decDigits 0).length = 1 := by rw [decDigits]; simp
  rw [h3, decDigits_length]
  omega
section
variable {L : List (List UInt8)} {n c : Nat} {l : Lg} {D : DSt}
theorem WOk.rlen (h : WOk L n l) (hn : n ≤ L.length) : l.recs.length = n + 1 - l.first ∧ l.next = n + 1 := by
  have h1 := h.f1
  have h2 : l.recs.length = n + 1 - l.first := by
    rw [h.recs, List.length_drop, List.length_take]
    omega
  refine ⟨h2, ?_⟩
  unfold Lg.next
  omega
theorem recB_ge (n : Nat) (r : List UInt8) : r.length ≤ (recB n r).length := by
  unfold recB
  rw [frameB_len, List.length_append]
  omega
/-- A record more. -/
theorem WOk.append (h : WOk L n l) (hd : DOk D c) (hc : c ≤ 900) (hn : n < L.length) (hrl : L[n].length ≤ 512) (h80 : L.length ≤ 80) :
    ∃ l' D', appendW l D [L[n]] = (0, l', D') ∧ WOk L (n + 1) l' ∧ DOk D' (c + 1) ∧ l'.first = l.first := by
  obtain ⟨hr1, hr2⟩ := h.rlen (by omega)
  have hb1 := recB_len (n + 1) L[n]
  have hb2 := recB_ge (n + 1) L[n]
  have hf1 := h.f1
  have hrecs : l.recs ++ [L[n]] = (L.take (n + 1)).drop (l.first - 1) := by
    rw [h.recs, List.take_succ_eq_append_getElem hn, List.drop_append_of_le_length (by rw [List.length_take]; omega)]
  obtain ⟨S1, s, hS⟩ : ∃ S1 s, l.segs = S1 ++ [s] := ⟨l.segs.dropLast, l.segs.getLast h.ne, (List.dropLast_concat_getLast h.ne).symm⟩
  have hlast : l.segs.getLast? = some s := by rw [hS]; simp
  have hch := h.ch
  rw [hS] at hch
  obtain ⟨m, hc1, hc2, hc3, hc4⟩ := chain_snoc.1 hch
  have hsg := h.sg s (by rw [hS]; simp)
  have hsf := hsg.f1
  have hmB : ∀ i, marksB i l.next [L[n]] = [i + (recB (n + 1) L[n]).length] := fun i => by rw [hr2]; rfl
  have hrB : recsB l.next [L[n]] = recB (n + 1) L[n] := by rw [hr2]; unfold recsB recsB; simp
  have hfin : ∀ (l' : Lg) (D' : DSt), (putW D l.to.name l.to.stop (recB (n + 1) L[n])) = (0, D') → l' = { l with segs := (if l.fits = true then l.segs.dropLast else l.segs) ++ [{ l.to with marks := l.to.marks ++ [l.to.stop + (recB (n + 1) L[n]).length] }], recs := l.recs ++ [L[n]] } → appendW l D [L[n]] = (0, l', D') := fun l' D' e1 e2 => by
    unfold appendW
    rw [if_neg (by rw [h.dn]; simp), if_neg (by simp; omega), if_neg (by simp), hrB, e1, if_neg (by simp), hmB, e2]
  by_cases hst : s.stop < 512
  · have hfit : l.fits = true := by unfold Lg.fits; rw [hlast]; simpa using hst
    have hto : l.to = s := by unfold Lg.to; rw [hlast]; simp [hst]
    obtain ⟨D', e1, hd'⟩ := hd.put (f := s.name) (off := s.stop) (x := recB (n + 1) L[n]) hc hsg.ok (by omega)
    refine ⟨_, D', hfin _ D' (by rw [hto]; exact e1) rfl, ?_, hd', rfl⟩
    rw [hto, if_pos hfit, hS, List.dropLast_concat]
    have hidx : s.first - 1 + (s.marks.length - 1) = n := by omega
    have hml : (s.marks ++ [s.stop + (recB (n + 1) L[n]).length]).length = s.marks.length + 1 := by simp
    have hst' : Sg.stop { s with marks := s.marks ++ [s.stop + (recB (n + 1) L[n]).length] } = s.stop + (recB (n + 1) L[n]).length := by
      unfold Sg.stop
      simp only [List.getLastD_concat]
    refine ⟨h.era, h.dn, ⟨hf1.1, by show l.first ≤ n + 1 + 1; omega⟩, hrecs, by simp, ?_, fun s' hs' => ?_, by
      have := h.sl; rw [hS] at this; simp only [List.length_append, List.length_cons, List.length_nil] at this ⊢; omega⟩
    · refine chain_snoc.2 ⟨m, hc1, hc2, by simp, ?_⟩
      show m + ((s.marks ++ [_]).length - 1) = n + 1 + 1
      rw [hml]
      omega
    · rcases List.mem_append.1 hs' with hs' | hs'
      · exact h.sg s' (by rw [hS]; exact List.mem_append_left _ hs')
      · rw [List.mem_singleton.1 hs']
        have hbs := bytesOf_succ L (i := s.first - 1) (k := s.marks.length - 1) (by omega)
        refine ⟨hsg.name, hsg.f1, ?_, ?_, by rw [hst']; omega, fun k hk => ?_⟩
        · rw [hst']
          show bytesOf L (s.first - 1) ((s.marks ++ [_]).length - 1) ≤ _
          rw [hml, show s.marks.length + 1 - 1 = s.marks.length - 1 + 1 from by omega, hbs]
          have e : L[s.first - 1 + (s.marks.length - 1)].length = L[n].length := by congr 1; simp only [hidx]
          rw [e]
          have := hsg.tot
          omega
        · show bytesOf L (s.first - 1) ((s.marks ++ [_]).length - 2) < 512
          rw [hml, show s.marks.length + 1 - 2 = s.marks.length - 1 from by omega]
          have := hsg.tot
          omega
        · rcases List.mem_append.1 hk with hk | hk
          · exact hsg.mks k hk
          · rw [List.mem_singleton.1 hk]; omega
  · have hfit : l.fits = false := by unfold Lg.fits; rw [hlast]; simpa using hst
    have hto : l.to = ⟨walName 0 (n + 1), n + 1, [0]⟩ := by unfold Lg.to; rw [hlast, h.era, hr2]; simp [hst]
    have hok : nameOk (walName 0 (n + 1)) = true := by
      refine nameOk_wal ?_
      have h2 := nDigits_le (u := n + 1) (by omega)
      have h3 : (decDigits 0).length = 1 := by rw [decDigits]; simp
      rw [h3, decDigits_length]
      omega
    obtain ⟨D', e1, hd'⟩ := hd.put (f := walName 0 (n + 1)) (off := 0) (x := recB (n + 1) L[n]) hc hok (by omega)
    refine ⟨_, D', hfin _ D' (by rw [hto]; exact e1) rfl, ?_, hd', rfl⟩
    rw [hto, if_neg (by rw [hfit]; simp)]
    have hbs := bytesOf_succ L (i := n) (k := 0) (by omega)
    have hb0 : bytesOf L n 0 = 0 := by simp [bytesOf]
    refine ⟨h.era, h.dn, ⟨hf1.1, by show l.first ≤ n + 1 + 1; omega⟩, hrecs, by simp, ?_, fun s' hs' => ?_, by
      have := h.sl; simp only [List.length_append, List.length_cons, List.length_nil]; omega⟩
    · exact chain_snoc.2 ⟨n + 1, h.ch, rfl, by simp, by simp⟩
    · rcases List.mem_append.1 hs' with hs' | hs'
      · exact h.sg s' hs'
      · rw [List.mem_singleton.1 hs']
        refine ⟨rfl, ⟨by show 1 ≤ n + 1; omega, by show n + 1 ≤ 1000; omega⟩, ?_, ?_, ?_, fun k hk => ?_⟩
        · show bytesOf L (n + 1 - 1) 1 ≤ _
          rw [Nat.add_sub_cancel, hbs, hb0]
          simp only [Sg.stop, Nat.add_zero]
          simp
          omega
        · show bytesOf L (n + 1 - 1) 0 < 512
          rw [Nat.add_sub_cancel, hb0]; omega
        · simp only [Sg.stop]
          simp
          omega
        · have e0 : Sg.stop ⟨walName 0 (n + 1), n + 1, [0]⟩ = 0 := rfl
          simp at hk
          omega
/-- What lies below a number is little, at a log whose first segment holds that number or all. -/
def Few (L : List (List UInt8)) (l : Lg) (t : Nat) : Prop := bytesOf L (l.first - 1) (t - l.first) ≤ 1100
theorem WOk.few1 (h : WOk L n l) {a : Sg} {r : List Sg} (hs : l.segs = a :: r) {t : Nat} (ht : t ≤ n + 1) (hb : ∀ b q, r = b :: q → t < b.first) : Few L l t := by
  have hch := h.ch
  rw [hs] at hch
  obtain ⟨h1, h2, h3⟩ := hch
  have ha := h.sg a (by rw [hs]; simp)
  have hm : t - l.first ≤ a.marks.length - 1 := by
    cases r with
    | nil => have e : l.first + (a.marks.length - 1) = n + 1 := h3; omega
    | cons b q =>
      have e := h3.1
      have := hb b q rfl
      omega
  unfold Few
  have h4 := bytesOf_mono L (l.first - 1) hm
  have h5 := ha.tot
  have h6 := ha.stop
  rw [h1] at h5
  omega
theorem WOk.drop (hL : n ≤ L.length) : ∀ (k : Nat) (l : Lg) (D : DSt) (c : Nat), WOk L n l → DOk D c → ∀ t, t ≤ n + 1 → l.first ≤ t → l.segs.length ≤ k → ∃ l' D', dropLoop t k l D = (0, l', D') ∧ WOk L n l' ∧ DOk D' (c + k) ∧ l'.first ≤ t ∧ Few L l' t
  | 0, l, D, c, h, _, t, _, _, hk => by
    have := List.length_pos_iff.2 h.ne
    omega
  | k + 1, l, D, c, h, hd, t, ht, hf, hk => by
    match hs : l.segs with
    | [] => exact absurd hs h.ne
    | [a] =>
      refine ⟨l, D, by unfold dropLoop; rw [hs], h, ⟨hd.dd, hd.fu, hd.ro, by have := hd.cn; omega, hd.fs⟩, hf, h.few1 hs ht (fun b q e => by cases e)⟩
    | a :: b :: r =>
      by_cases hb : b.first ≤ t
      · have ha := h.sg a (by rw [hs]; simp)
        obtain ⟨D1, e1, hd1⟩ := hd.remove (NL := [a.name]) h.dn (fun f hf => by rw [List.mem_singleton.1 hf]; exact ha.ok)
        have hch := h.ch
        rw [hs] at hch
        obtain ⟨h1, h2, h3⟩ := hch
        have hbf := h3.1
        have hle := h3.le
        have hW : WOk L n { l with recs := l.recs.drop (b.first - l.first), segs := b :: r, first := b.first } := by
          have hf1 := h.f1
          refine ⟨h.era, h.dn, ⟨by show 1 ≤ b.first; omega, by show b.first ≤ n + 1; omega⟩, ?_, by simp, ?_, fun s hs' => h.sg s (by rw [hs]; exact List.mem_cons_of_mem _ hs'), by have := h.sl; rw [hs] at this; simp only [List.length_cons] at this ⊢; omega⟩
          · show l.recs.drop (b.first - l.first) = _
            rw [h.recs, List.drop_drop, show l.first - 1 + (b.first - l.first) = b.first - 1 from by omega]
          · show SegsCh (b :: r) b.first (n + 1)
            rw [← hbf] at h3
            exact h3
        obtain ⟨l2, D2, e2, k1, k2, k3, k4⟩ := WOk.drop hL k _ D1 (c + 1) hW hd1 t ht hb (by rw [hs] at hk; simp only [List.length_cons] at hk ⊢; omega)
        refine ⟨l2, D2, ?_, k1, by rw [show c + (k + 1) = c + 1 + k from by omega]; exact k2, k3, k4⟩
        unfold dropLoop
        rw [hs]
        simp only [hb, if_true]
        rw [e1, if_neg (by simp)]
        exact e2
      · refine ⟨l, D, ?_, h, ⟨hd.dd, hd.fu, hd.ro, by have := hd.cn; omega, hd.fs⟩, hf, h.few1 hs ht (fun b' q e => by injection e with e1 _; rw [← e1]; omega)⟩
        unfold dropLoop
        rw [hs]
        simp only [hb, if_false]
theorem WOk.marksLen (h : WOk L n l) {s : Sg} (hs : s ∈ l.segs) : s.marks.length ≤ n + 2 := by
  obtain ⟨k, hk⟩ := List.getElem?_of_mem hs
  have := h.ch.get hk
  have hf := h.f1
  omega
theorem WOk.fine (h : WOk L n l) (hL : n ≤ L.length) (hn : n ≤ 1000) (hr : ∀ r ∈ L.take n, r.length ≤ 512) : l.fine ∧ l.fineD ∧ l.chain := by
  obtain ⟨hr1, hr2⟩ := h.rlen hL
  have hnm : ∀ s ∈ l.segs, s.name.length ≤ 1000 := fun s hs => by
    have hg := h.sg s hs
    rw [hg.name]
    have := walName_len (e := 0) (n := s.first) (by omega) (by have := hg.f1; omega)
    omega
  refine ⟨⟨fun s hs => ⟨by have := (h.sg s hs).stop; omega, by have := h.marksLen hs; omega, hnm s hs, by have := (h.sg s hs).f1; omega⟩, by rw [hr2]; omega, by rw [h.era]; omega, by have := h.sl; omega, by rw [hr1]; omega, fun r hm => ?_⟩, ⟨fun s hs => ⟨hnm s hs, by have := h.marksLen hs; omega⟩, by rw [hr2]; omega, by have := h.sl; omega, by rw [hr1]; omega⟩, ?_⟩
  · rw [h.recs] at hm
    have := hr r (List.mem_of_mem_drop hm)
    omega
  · unfold Lg.chain
    rw [hr2]
    exact h.ch
end
end Go.Proofs.YtobdmlejabjmiaaGreatDoor

