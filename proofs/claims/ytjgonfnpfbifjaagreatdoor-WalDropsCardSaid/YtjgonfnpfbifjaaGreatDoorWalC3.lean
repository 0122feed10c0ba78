/- WalC3: put together by merge.py of: WalU, WalV, WalX, WalY. -/
import Derived.Test.YtjgonfnpfbifjaaGreatDoorWalF
import Derived.Test.YtjgonfnpfbifjaaGreatDoorRowS
import Derived.Test.YtjgonfnpfbifjaaGreatDoorDskM
import Derived.Test.YtjgonfnpfbifjaaGreatDoorWalB2
/- Package wal: rows of a log that are cut and copied; slices.Clone of rows of one cell each. -/
namespace Go.Proofs.YtjgonfnpfbifjaaGreatDoor
open Go.RowKit

theorem rv_rows {w : World} {A : Option Addr} {xs : List Value} (h : RV w A xs) : RS w A 1 (xs.map fun v => [v]) := by
  refine ⟨fun h0 => ?_⟩
  obtain ⟨b, off, e, hb, hc⟩ := h.at_ (by simpa using h0)
  refine ⟨b, off, e, hb, fun i cs hi j v hj => ?_⟩
  rw [List.getElem?_map] at hi
  obtain ⟨t, ht, rfl⟩ := Option.map_eq_some_iff.1 hi
  match j with
  | 0 =>
    simp only [List.getElem?_cons_zero, Option.some.injEq] at hj
    subst hj
    rw [Nat.mul_one, Nat.add_zero]
    exact hc i _ ht
  | j + 1 => simp at hj
theorem one_flat : ∀ (xs : List Value), (xs.map fun v => [v]).flatten = xs
  | [] => rfl
  | a :: t => by simp [one_flat t]
theorem one_len (xs : List Value) : ∀ r ∈ (xs.map fun v => [v]), r.length = 1 := by
  intro r hr
  obtain ⟨t, _, rfl⟩ := List.mem_map.1 hr
  rfl
theorem one_one {xs : List Value} (h : ∀ v ∈ xs, v.oneCell' = true) : ∀ r ∈ (xs.map fun v => [v]), ∀ v ∈ r, v.oneCell' = true := by
  intro r hr v hv
  obtain ⟨t, ht, rfl⟩ := List.mem_map.1 hr
  rw [List.mem_singleton.1 hv]
  exact h t ht
theorem ov_of_or {w : World} {B c : Nat} {e : TypeId} {A : Option Addr} {xs : List Value} (h : OR w B e 1 A c (xs.map fun v => [v])) : OV w B e A c xs := by
  have h1 := h.1
  rw [one_flat, List.length_map] at h1
  exact h1
/-- What slices.Clone of such a row ends in. -/
def CloneE (T : TypeId) (xs : List Value) (w : World) (e : Ending) (w' : World) : Prop :=
  ∃ A c n, n = xs.length ∧ e = .returned (.slice A n c) ∧ OV w' w.heap.size T A c xs ∧ Below w.heap.size w w'
theorem tp_info3 : (Tryz.prog.info? 68).map (fun i => (i.zero, i.size, i.bytes)) = some (some (.pointer none), 1, 8) := by kernel_rfl
theorem tb_info3 : (Tryz.prog.info? 33).map (fun i => (i.zero, i.size, i.bytes)) = some (some (.slice none 0 0), 1, 24) := by kernel_rfl
set_option maxHeartbeats 1000000 in
theorem cloneSegs (A : Option Addr) (c : Nat) (xs : List Value) (w : World) (h : RV w A xs) (h1 : ∀ v ∈ xs, v.oneCell' = true) (hl : xs.length ≤ 1000000000) :
    Calls Tryz.prog 41 #[.slice A xs.length c] w (CloneE 68 xs w) := by
  have hnil := fun w => Lib.run_eql_slice_nil (P := Tryz.prog) w 54 68 A xs.length c 0 0 Tryz.underlying54
  rcases A with _ | ad
  · have hl0 : xs = [] := by
      rcases Nat.eq_zero_or_pos xs.length with h0 | h0
      · exact List.eq_nil_of_length_eq_zero h0
      · obtain ⟨b, off, e, _⟩ := h.at_ h0; cases e
    have HL := Lib.hid hl0
    clear h hl hl0 h1
    go_enter Tryz.func41, Tryz.ntmps41
    go_wp2_with fail
    go_ret
    exact ⟨none, 0, 0, by rw [HL.out]; rfl, rfl, by rw [HL.out]; exact OV.nil _ _ _, Below.refl _ _⟩
  · obtain ⟨i0, hi0, hz0, hz1, hz2⟩ := info_parts tp_info3
    have HRS := Lib.hid (rv_rows ((h.below ((Below.refl w.heap.size w).alloc (Nat.le_refl _) (.cells #[] 68)))))
    have H1 := Lib.hid (one_one h1)
    have hwa : w.heap.size ≤ (w.alloc (.cells #[] 68)).heap.size := by simp
    clear h h1
    go_enter Tryz.func41, Tryz.ntmps41
    go_wp2_with (at_builtin; refine wp_appendS _ rfl _ _ 54 68 rfl Tryz.underlying54 hi0 hz0 hz1 hz2 rfl (by decide) w.heap.size (some ⟨w.heap.size, 0, none⟩) (some ad) 0 c [] (xs.map fun v => [v]) rfl (by rw [List.length_map]; rfl) (OR.made0 _ _ _ (Nat.le_refl _)) HRS.out (one_len xs) H1.out (by simp; omega) (by simp; omega) hwa ?_; intro ys A' c' w' hys hy1 hy2 hrow hg hA)
    go_ret
    have hysd : ys = xs.map fun v => [v] := by simpa using hys.out
    rw [hysd] at hrow
    exact ⟨A', c', _, by rw [hysd, List.length_map], rfl, ov_of_or hrow, ((Below.refl _ _).alloc (Nat.le_refl _) _).grown hg (by simp) (by simp)⟩
set_option maxHeartbeats 1000000 in
theorem cloneRecs (A : Option Addr) (c : Nat) (xs : List Value) (w : World) (h : RV w A xs) (h1 : ∀ v ∈ xs, v.oneCell' = true) (hl : xs.length ≤ 1000000000) :
    Calls Tryz.prog 40 #[.slice A xs.length c] w (CloneE 33 xs w) := by
  have hnil := fun w => Lib.run_eql_slice_nil (P := Tryz.prog) w 22 33 A xs.length c 0 0 Tryz.underlying22
  rcases A with _ | ad
  · have hl0 : xs = [] := by
      rcases Nat.eq_zero_or_pos xs.length with h0 | h0
      · exact List.eq_nil_of_length_eq_zero h0
      · obtain ⟨b, off, e, _⟩ := h.at_ h0; cases e
    have HL := Lib.hid hl0
    clear h hl hl0 h1
    go_enter Tryz.func40, Tryz.ntmps40
    go_wp2_with fail
    go_ret
    exact ⟨none, 0, 0, by rw [HL.out]; rfl, rfl, by rw [HL.out]; exact OV.nil _ _ _, Below.refl _ _⟩
  · obtain ⟨i0, hi0, hz0, hz1, hz2⟩ := info_parts tb_info3
    have HRS := Lib.hid (rv_rows ((h.below ((Below.refl w.heap.size w).alloc (Nat.le_refl _) (.cells #[] 33)))))
    have H1 := Lib.hid (one_one h1)
    have hwa : w.heap.size ≤ (w.alloc (.cells #[] 33)).heap.size := by simp
    clear h h1
    go_enter Tryz.func40, Tryz.ntmps40
    go_wp2_with (at_builtin; refine wp_appendS _ rfl _ _ 22 33 rfl Tryz.underlying22 hi0 hz0 hz1 hz2 rfl (by decide) w.heap.size (some ⟨w.heap.size, 0, none⟩) (some ad) 0 c [] (xs.map fun v => [v]) rfl (by rw [List.length_map]; rfl) (OR.made0 _ _ _ (Nat.le_refl _)) HRS.out (one_len xs) H1.out (by simp; omega) (by simp; omega) hwa ?_; intro ys A' c' w' hys hy1 hy2 hrow hg hA)
    go_ret
    have hysd : ys = xs.map fun v => [v] := by simpa using hys.out
    rw [hysd] at hrow
    exact ⟨A', c', _, by rw [hysd, List.length_map], rfl, ov_of_or hrow, ((Below.refl _ _).alloc (Nat.le_refl _) _).grown hg (by simp) (by simp)⟩
section
variable {B p g sc rc : Nat} {S F F' T : Nat → Prop} {w w' : World} {l l' : Lg} {D D' : DSt} {Z Z' Z1 Z2 : List (Sg × Pl)} {Y Y' : List (List UInt8 × Option Addr × Nat)} {SA RA SA' RA' : Option Addr} {s s' : Sg} {z : Pl} {sc' rc' n : Nat}
/-- What lies above n is the log's own too. -/
theorem LX.wideN (h : LX B S F w p g l D Z Y SA sc RA rc) (hB : B ≤ n) (hS : ∀ b, S b → b < n) : LX B S (fun b => F b ∨ (n ≤ b ∧ b < w.heap.size)) w p g l D Z Y SA sc RA rc :=
  ⟨h.blk, .inl h.fp, h.zs, h.ys, h.lb.wide (fun b hb => .inl hb) (fun b hb => hb.elim (h.lb.dis b) (fun hb hs => by have := hS b hs; omega)) (fun b hb => hb.elim (h.lb.bnd b) (fun hb => ⟨by omega, hb.2⟩))⟩
/-- Another row of the records, some of those that were there. -/
theorem LX.setRecs (h : LX B S F w p g l D Z Y SA sc RA rc) (hsub : ∀ y ∈ Y', y ∈ Y) (hov : OV w B TB RA' rc' (Y'.map recV)) (hF : ∀ b, RA'.map (·.block) = some b → F b) (hn : n = Y'.length) :
    LX B S F (w.setCell ⟨p, 3, none⟩ (.slice RA' n rc')) p g { l with recs := Y'.map Prod.fst } D Z Y' SA sc RA' rc' := by
  subst hn
  have hl : LB B S F w g D Z Y' SA sc RA' rc' :=
    ⟨h.lb.di, h.lb.sv, hov, h.lb.sg, fun y hy => h.lb.rc y (hsub y hy), h.lb.fs, hF, h.lb.fq, fun y hy => h.lb.fy y (hsub y hy), fun y hy => h.lb.yb y (hsub y hy), h.lb.dis, h.lb.bnd, h.lb.sge, h.lb.qn, h.lb.mn⟩
  have m : Mods (· = p) w (w.setCell ⟨p, 3, none⟩ (.slice RA' Y'.length rc')) := (Mods.refl (· = p) w).setCell ⟨p, _, none⟩ (.inl rfl) _
  refine ⟨?_, h.fp, h.zs, rfl, hl.setP h.blk h.ps m⟩
  have h1 := h.blk.setCell 3 (.slice RA' Y'.length rc')
  have e : (logV g l SA sc RA rc).setIfInBounds 3 (.slice RA' Y'.length rc') = logV g { l with recs := Y'.map Prod.fst } SA sc RA' rc' := by
    simp [logV]
  rw [e] at h1
  exact h1
/-- Another row of the segments, some of those that were there. -/
theorem LX.setSegs (h : LX B S F w p g l D Z Y SA sc RA rc) (hsub : Z'.Sublist Z) (hov : OV w B TP SA' sc' (Z'.map ptrV)) (hF : ∀ b, SA'.map (·.block) = some b → F b) (hn : n = Z'.length) :
    LX B S F (w.setCell ⟨p, 2, none⟩ (.slice SA' n sc')) p g { l with segs := Z'.map Prod.fst } D Z' Y SA' sc' RA rc := by
  subst hn
  have hl : LB B S F w g D Z' Y SA' sc' RA rc :=
    ⟨h.lb.di, hov, h.lb.rv, fun z hz => h.lb.sg z (hsub.subset hz), h.lb.rc, hF, h.lb.fr, fun z hz => h.lb.fq z (hsub.subset hz), h.lb.fy, h.lb.yb, h.lb.dis, h.lb.bnd, h.lb.sge, (hsub.map _).nodup h.lb.qn, (hsub.map _).nodup h.lb.mn⟩
  have m : Mods (· = p) w (w.setCell ⟨p, 2, none⟩ (.slice SA' Z'.length sc')) := (Mods.refl (· = p) w).setCell ⟨p, _, none⟩ (.inl rfl) _
  refine ⟨?_, h.fp, rfl, h.ys, hl.setP h.blk h.ps m⟩
  have h1 := h.blk.setCell 2 (.slice SA' Z'.length sc')
  have e : (logV g l SA sc RA rc).setIfInBounds 2 (.slice SA' Z'.length sc') = logV g { l with segs := Z'.map Prod.fst } SA' sc' RA rc := by
    simp [logV]
  rw [e] at h1
  exact h1
/-- A segment in the middle has fewer marks. -/
theorem LX.cutMarks (h : LX B S F w p g l D (Z1 ++ (s, z) :: Z2) Y SA sc RA rc) (k : Nat) (hk : 0 < k) (hn : n = (s.marks.take k).length) :
    LX B S F (w.setCell ⟨z.q, 2, none⟩ (.slice (some ⟨z.m, 0, none⟩) n z.c)) p g { l with segs := Z1.map Prod.fst ++ { s with marks := s.marks.take k } :: Z2.map Prod.fst } D (Z1 ++ ({ s with marks := s.marks.take k }, z) :: Z2) Y SA sc RA rc := by
  subst hn
  have hz := h.lb.sg (s, z) (by simp)
  have hzb : Blk w z.q TG (sgV s z) := hz.blk
  have hq := (h.lb.fq (s, z) (by simp)).1
  have hqs : ¬ S z.q := h.lb.dis _ hq
  have m : Mods (· = z.q) w (w.setCell ⟨z.q, 2, none⟩ (.slice (some ⟨z.m, 0, none⟩) (s.marks.take k).length z.c)) := (Mods.refl (· = z.q) w).setCell ⟨z.q, _, none⟩ (.inl rfl) _
  have hqn := h.lb.qn
  have hmn := h.lb.mn
  have hne : ∀ y ∈ Z1 ++ Z2, y.2.q ≠ z.q := by
    intro y hy
    rw [List.map_append, List.map_cons, List.nodup_append, List.nodup_cons] at hqn
    rcases List.mem_append.1 hy with hy | hy
    · exact hqn.2.2 _ (List.mem_map.2 ⟨y, hy, rfl⟩) _ (List.mem_cons_self ..)
    · exact fun e => hqn.2.1.1 (List.mem_map.2 ⟨y, hy, e⟩)
  have hmr : OV w B 3 (some ⟨z.m, 0, none⟩) z.c ((s.marks.take k).map encMark) := by
    have := hz.mr.take k
    rw [← List.map_take] at this
    exact this
  have other : ∀ y ∈ Z1 ++ Z2, SgAt (w.setCell ⟨z.q, 2, none⟩ (.slice (some ⟨z.m, 0, none⟩) (s.marks.take k).length z.c)) B y.1 y.2 := fun y hy => by
    have hy' := h.lb.sg y (by
      rcases List.mem_append.1 hy with hy | hy
      · exact List.mem_append_left _ hy
      · exact List.mem_append_right _ (List.mem_cons_of_mem _ hy))
    refine hy'.mods m (hne y hy) ?_
    obtain ⟨cs, hb⟩ := hy'.mblk
    exact hb.ne hzb (by decide)
  refine ⟨?_, h.fp, by simp, h.ys, ⟨h.lb.di.mods m (fun b _ hs e => hqs (by rw [← e]; exact hs)), ?_, h.lb.rv.mods m (fun k hk e => h.lb.rv.ne_blk hzb (by decide) (by rw [hk, e])), ?_, ?_, h.lb.fs, h.lb.fr, ?_, h.lb.fy, ?_, h.lb.dis, fun b hb' => ⟨(h.lb.bnd b hb').1, Nat.lt_of_lt_of_le (h.lb.bnd b hb').2 m.size⟩, h.lb.sge, ?_, ?_⟩⟩
  · have h1 := h.blk.mods m (h.blk.ne hzb (by decide))
    have e : logV g l SA sc RA rc = logV g { l with segs := Z1.map Prod.fst ++ { s with marks := s.marks.take k } :: Z2.map Prod.fst } SA sc RA rc := by
      have := h.lens.1
      simp only [logV]
      rw [← this]
      simp
    rw [e] at h1
    exact h1
  · have h1 := h.lb.sv.mods m (fun k hk e => h.lb.sv.ne_blk hzb (by decide) (by rw [hk, e]))
    simpa [ptrV] using h1
  · intro y hy
    rcases List.mem_append.1 hy with hy | hy
    · exact other y (List.mem_append_left _ hy)
    · rcases List.mem_cons.1 hy with rfl | hy
      · refine ⟨?_, hmr.mods m (fun k hk e => hmr.ne_blk hzb (by decide) (by rw [hk, e])), by
          have := hz.pos
          simp only at this
          show 0 < (s.marks.take k).length
          rw [List.length_take]; omega⟩
        have h1 := hzb.setCell 2 (.slice (some ⟨z.m, 0, none⟩) (s.marks.take k).length z.c)
        have e : (sgV s z).setIfInBounds 2 (.slice (some ⟨z.m, 0, none⟩) (s.marks.take k).length z.c) = sgV { s with marks := s.marks.take k } z := by
          simp [sgV]
        rw [e] at h1
        exact h1
      · exact other y (List.mem_append_right _ hy)
  · exact fun y hy => (h.lb.rc y hy).mods m (fun h0 k hk e => by
      obtain ⟨cs', hc⟩ := h.lb.yb y hy h0 k hk
      exact hc.ne hzb (by decide) e)
  · intro y hy
    rcases List.mem_append.1 hy with hy | hy
    · exact h.lb.fq y (List.mem_append_left _ hy)
    · rcases List.mem_cons.1 hy with rfl | hy
      · exact h.lb.fq (s, z) (by simp)
      · exact h.lb.fq y (List.mem_append_right _ (List.mem_cons_of_mem _ hy))
  · intro y hy h0 b e
    obtain ⟨cs', hc⟩ := h.lb.yb y hy h0 b e
    exact ⟨cs', hc.mods m (fun e' => hc.ne hzb (by decide) e')⟩
  · simpa using hqn
  · simpa using hmn
end
end Go.Proofs.YtjgonfnpfbifjaaGreatDoor
/- Package wal's Drop. -/
namespace Go.Proofs.YtjgonfnpfbifjaaGreatDoor
open Go.RowKit

/-- Segments that follow one another, from a number to a number. -/
def SegsCh : List Sg → Nat → Nat → Prop
  | [], f, n => f = n
  | s :: r, f, n => s.first = f ∧ 0 < s.marks.length ∧ SegsCh r (f + (s.marks.length - 1)) n
theorem SegsCh.le : ∀ {L : List Sg} {f n : Nat}, SegsCh L f n → f ≤ n
  | [], f, n, h => Nat.le_of_eq h
  | s :: r, f, n, h => by have := h.2.2.le; omega
def Lg.chain (l : Lg) : Prop := SegsCh l.segs l.first l.next
theorem files_len (D : DSt) : D.files.length ≤ D.cnt := by
  unfold DSt.files DSt.cnt
  generalize D.sure = F
  induction D.unsure generalizing F with
  | nil => simp
  | cons u t ih =>
    rw [List.foldl_cons, List.length_cons]
    have h1 := ih (doF F u)
    have h2 := doF_len F u
    omega
theorem syncD_cnt (D : DSt) : (syncD D).2.cnt ≤ D.cnt := by
  unfold syncD
  split
  · exact Nat.le_refl _
  · split
    · unfold DSt.cnt; rw [burnD_sure, burnD_unsure]; exact Nat.le_refl _
    · have := files_len D
      show D.files.length + 0 ≤ _
      omega
theorem fell_ok {l : Lg} (h : l.down = false) : l.fell 0 = l := by
  unfold Lg.fell
  rw [h]
  exact lup_same l h
theorem syncW_ok {l : Lg} {D : DSt} (hd : l.down = false) (h : (syncW l D).1 = 0) : (syncW l D).2.1 = l ∧ (syncW l D).2.2.cnt ≤ D.cnt := by
  unfold syncW at h ⊢
  rw [if_neg (by rw [hd]; simp)] at h ⊢
  simp only at h ⊢
  rw [h]
  exact ⟨fell_ok hd, syncD_cnt D⟩
theorem removeW_ok : ∀ {L : List Nm} {l : Lg} {D : DSt}, l.down = false → (removeW L l D).1 = 0 → (removeW L l D).2.1 = l ∧ (removeW L l D).2.2.cnt ≤ D.cnt + L.length
  | [], l, D, hd, h => by
    rw [removeW] at h ⊢
    exact syncW_ok hd h
  | f :: r, l, D, hd, h => by
    rw [removeW] at h ⊢
    split at h
    · rename_i h1
      exact absurd h h1
    · rename_i h1
      rw [if_neg h1]
      have h0 : (rmD D f).1 = 0 := Classical.not_not.1 h1
      rw [h0, fell_ok hd] at h ⊢
      have h2 := removeW_ok (L := r) hd h
      have h3 : (rmD D f).2.cnt ≤ D.cnt + 1 := by unfold rmD; exact wchange_cnt _ _ _
      refine ⟨h2.1, ?_⟩
      have := h2.2
      simp only [List.length_cons]
      omega
section
variable {B p g sc rc : Nat} {S F F' T : Nat → Prop} {w w' wr : World} {l l' : Lg} {D D' : DSt} {Z Z' Z1 Z2 : List (Sg × Pl)} {Y Y' : List (List UInt8 × Option Addr × Nat)} {SA RA SA' RA' : Option Addr} {s s' : Sg} {z : Pl} {sc' rc' n : Nat}
/-- What a log must be for Drop and Cut to be reckoned in ints. -/
structure Lg.fineD (l : Lg) : Prop where
  nm : ∀ s ∈ l.segs, s.name.length ≤ 1000 ∧ s.marks.length ≤ 1000000
  nx : l.next ≤ 1000000000000
  sl : l.segs.length ≤ 1000000
  rl : l.recs.length ≤ 1000000
/-- Where Drop's loop stands. -/
structure DrpAt (B : Nat) (S F : Nat → Prop) (w : World) (p g : Nat) (upto : Nat) (r : Int × Lg × DSt) (wr : World) (S' F' : Nat → Prop) (lk : Lg) (Dk : DSt) (Z : List (Sg × Pl)) (Y : List (List UInt8 × Option Addr × Nat)) (SA : Option Addr) (sc : Nat) (RA : Option Addr) (rc : Nat) (k : Nat) : Prop where
  lx : LX B S' F' wr p g lk Dk Z Y SA sc RA rc
  ss : ∀ b, S' b → S b ∨ w.heap.size ≤ b
  ff : ∀ b, F' b → F b ∨ w.heap.size ≤ b
  mods : Mods (fun b => S b ∨ F b) w wr
  eq : r = dropLoop upto k lk Dk
  fuel : lk.segs.length ≤ k
  up : lk.down = false
  ch : lk.chain
  fine : lk.fineD
  cnt : Dk.cnt + lk.segs.length ≤ 500000
theorem rv_drop {w : World} {b off : Nat} {xs : List Value} (h : RV w (some ⟨b, off, none⟩) xs) (k : Nat) : RV w (some ⟨b, off + k, none⟩) (xs.drop k) := by
  refine ⟨fun h0 => ?_⟩
  rw [List.length_drop] at h0
  obtain ⟨b', off', e, hb, hc⟩ := h.at_ (by omega)
  injection e with e
  injection e with e1 e2 _
  subst e1 e2
  refine ⟨b, off + k, rfl, hb, fun j x hx => ?_⟩
  rw [List.getElem?_drop] at hx
  have := hc _ _ hx
  rwa [Nat.add_assoc]
theorem OV.get {w : World} {B c b j : Nat} {e : TypeId} {xs : List Value} {v : Value} (h : OV w B e (some ⟨b, 0, none⟩) c xs) (hv : xs[j]? = some v) : w.cell? ⟨b, j, none⟩ = some v := by
  obtain ⟨b', off', e', _, hc⟩ := h.rv.at_ (by
    have := (List.getElem?_eq_some_iff.1 hv).1
    omega)
  injection e' with e'
  injection e' with e1 e2 _
  subst e1 e2
  have := hc j v hv
  rwa [Nat.zero_add] at this
theorem slices_one (Y : List (List UInt8 × Option Addr × Nat)) : ∀ v ∈ Y.map recV, v.oneCell' = true := by
  intro v hv
  obtain ⟨y, _, rfl⟩ := List.mem_map.1 hv
  rfl
theorem ptrs_one (Z : List (Sg × Pl)) : ∀ v ∈ Z.map ptrV, v.oneCell' = true := by
  intro v hv
  obtain ⟨y, _, rfl⟩ := List.mem_map.1 hv
  rfl
set_option maxRecDepth 20000 in
set_option maxHeartbeats 8000000 in
theorem walDrop (h : LX B S F w p g l D Z Y SA sc RA rc) (hB : B ≤ w.heap.size) (upto : Nat) (hup : upto ≤ 1000000000000) (hch : l.chain) (hfine : l.fineD) (hcnt : D.cnt + l.segs.length ≤ 500000) :
    Calls Tryz.prog 15 #[.pointer (some ⟨p, 0, none⟩), .int .u64 (upto : Int)] w (LDone B S F w p g (.int .i64 (dropW l D upto).1) (dropW l D upto).2.1 (dropW l D upto).2.2) := by
  have AL := Lib.hid (walAlive h.blk l.down rfl)
  cases hd : l.down with
  | true =>
    rw [hd, if_pos rfl] at AL
    have e : dropW l D upto = (11, l, D) := by unfold dropW; rw [if_pos hd]
    rw [e]
    have HF : Hid (LDone B S F w p g (.int .i64 11) l D (.returned (.int .i64 11)) w) := Lib.hid ⟨rfl, S, F, ⟨_, _, _, _, _, _, h⟩, fun b hb => .inl hb, fun b hb => .inl hb, Mods.refl _ _⟩
    clear h hcnt hd e hch hfine
    go_enter Tryz.func15, Tryz.ntmps15
    go_wp2_with (go_at_call 27; refine AL.out.mono ?_)
    first | rintro e w1 rfl rfl | rintro e w1 ⟨rfl, rfl⟩
    clear AL
    go_wp2_with fail
    go_ret
    exact HF.out
  | false =>
    rw [hd, if_neg (by simp)] at AL
    have hnx := hfine.nx
    have hnx2 : l.first + l.recs.length ≤ 1000000000000 := hnx
    have NX := Lib.hid (walNext h.blk l.first l.recs.length rc RA rfl rfl (by omega))
    by_cases hgap : l.next < upto
    · have e : dropW l D upto = (12, l, D) := by unfold dropW; rw [if_neg (by rw [hd]; simp), if_pos hgap]
      rw [e]
      have hg : ((l.first + l.recs.length : Nat) : Int) < (upto : Int) := by have : l.next = l.first + l.recs.length := rfl; omega
      have HF : Hid (∀ n, LDone B S F w p g (.int .i64 12) l D (.returned (.int .i64 12)) (w.drewN n)) := Lib.hid (fun n => ⟨rfl, S, F, ⟨_, _, _, _, _, _, h.below (belowDrewN (Below.refl _ _) n)⟩, fun b hb => .inl hb, fun b hb => .inl hb, Mods.of_below (belowDrewN (Below.refl _ _) n)⟩)
      clear h hcnt hd e hch hfine hgap hnx
      go_enter Tryz.func15, Tryz.ntmps15
      go_wp2_with (first | (go_at_call 27; refine AL.out.mono ?_; first | rintro e w1 rfl rfl | rintro e w1 ⟨rfl, rfl⟩) | (go_at_call 14; refine NX.out.mono ?_))
      first | rintro e w2 rfl n2 rfl | rintro e w2 ⟨rfl, n2, rfl⟩
      clear AL NX
      go_wp2_with fail
      go_ret
      exact HF.out _
    · have hg : ¬ ((l.first + l.recs.length : Nat) : Int) < (upto : Int) := by have : l.next = l.first + l.recs.length := rfl; omega
      obtain ⟨q, hq⟩ : ∃ q, q = syncW l D := ⟨_, rfl⟩
      have hcn : D.cnt ≤ 500000 := by omega
      have SY : Hid (∀ n, Calls Tryz.prog 11 #[.pointer (some ⟨p, 0, none⟩)] (w.drewN n) (LKeep B S F (w.drewN n) p g Z Y SA sc RA rc (.int .i64 q.1) q.2.1 q.2.2)) := Lib.hid (fun n => by
        have h1 := walSync (h.below (belowDrewN (Below.refl _ _) n)) (Nat.le_trans hB (belowDrewN (Below.refl w.heap.size w) n).size) (by omega)
        rw [← hq] at h1; exact h1)
      have hdw : dropW l D upto = if q.1 ≠ 0 then q else dropLoop upto l.segs.length q.2.1 q.2.2 := by unfold dropW; rw [if_neg (by rw [hd]; simp), if_neg hgap, ← hq]
      obtain ⟨r, hr⟩ : ∃ r, r = dropW l D upto := ⟨_, rfl⟩
      rw [← hr] at hdw ⊢
      have HR := Lib.hid hdw
      have HQ := Lib.hid hq
      have HX := Lib.hid h
      have HD := Lib.hid hd
      have HCH := Lib.hid hch
      have HFN := Lib.hid hfine
      clear h hd hch hfine hgap hnx hr hdw hq
      go_enter Tryz.func15, Tryz.ntmps15
      go_wp2_with (first | (go_at_call 27; refine AL.out.mono ?_; first | rintro e w1 rfl rfl | rintro e w1 ⟨rfl, rfl⟩) | (go_at_call 14; refine NX.out.mono ?_))
      first | rintro e w2 rfl n2 rfl | rintro e w2 ⟨rfl, n2, rfl⟩
      clear AL NX
      go_wp2_with (go_at_call 11; refine (SY.out _).mono ?_)
      rintro e w3 ⟨rfl, S3, hx3, hs3, hm3⟩
      have hd2 := belowDrewN (Below.refl w.heap.size w) n2
      have HS3 : Hid (∀ b, S3 b → S b ∨ w.heap.size ≤ b) := Lib.hid (fun b hb => (hs3 b hb).imp id (fun h => Nat.le_trans hd2.size h))
      have HM3 : Hid (Mods (fun b => S b ∨ F b) w w3) := Lib.hid ((Mods.of_below hd2).trans hm3 (fun i hi => .inl (hi.imp id (fun e => by rw [e]; exact HX.out.fp))))
      have HX3 := Lib.hid hx3
      clear hx3 hs3 hm3 hd2 SY
      by_cases hq0 : q.1 = 0
      · have hqb : (q.1 == 0) = true := by simpa using hq0
        have hok := syncW_ok (D := D) HD.out (by rw [← HQ.out]; exact hq0)
        rw [← HQ.out] at hok
        have HDA : Hid (DrpAt B S F w p g upto r w3 S3 F l q.2.2 Z Y SA sc RA rc l.segs.length) := Lib.hid ⟨HX3.out.same hok.1, HS3.out, fun b hb => .inl hb, HM3.out, by rw [HR.out, if_neg (by rw [hq0]; simp), hok.1], Nat.le_refl _, HD.out, HCH.out, HFN.out, by have := hok.2; omega⟩
        clear hok HX3 HS3 HM3 HR HQ HX HD HCH HFN hcn hcnt hg hnx2
        rw [hq0]
        clear hqb hq0
        go_wp2_with fail
        go_loopw [] (fun wr => ∃ S' F' lk Dk Z Y SA sc RA rc k, Hid (DrpAt B S F w p g upto r wr S' F' lk Dk Z Y SA sc RA rc k)) (fun wr => match wr.cell? ⟨p, 2, none⟩ with | some (.slice _ n _) => n | _ => 0)
        case atStart => exact ⟨_, _, _, _, _, _, _, _, _, _, _, HDA⟩
        case round =>
          clear HDA
          obtain ⟨S', F', lk, Dk, Z, Y, SA, sc, RA, rc, k, HDA⟩ := hrel
          have hda := HDA.out
          have hlz := hda.lx.zs
          have hch := hda.ch
          unfold Lg.chain at hch
          have hdone : (∀ a b t, lk.segs = a :: b :: t → ¬ b.first ≤ upto) → r = (0, lk, Dk) := fun hno => by
            rw [hda.eq]
            cases k with
            | zero => rfl
            | succ k =>
              unfold dropLoop
              split
              · rename_i a b t e
                rw [if_neg (hno a b t e)]
              · rfl
          match hZ : Z with
          | [] =>
            have hls : lk.segs = [] := by rw [← hlz]; rfl
            have c2 : wr.cell? ⟨p, 2, none⟩ = some (.slice SA 0 sc) := by
              have e : wr.cell? ⟨p, 2, none⟩ = some (.slice SA lk.segs.length sc) := hda.lx.blk.cell 2 rfl
              rw [hls] at e; exact e
            have HF : Hid (LDone B S F w p g (.int .i64 r.1) r.2.1 r.2.2 (.returned (.int .i64 0)) wr) := Lib.hid (by
              rw [hdone (fun a b t e => by rw [hls] at e; cases e)]
              exact ⟨rfl, S', F', ⟨_, _, _, _, _, _, hda.lx⟩, hda.ss, hda.ff, hda.mods⟩)
            clear hda HDA hlz hch hdone hls
            go_wp2_with fail
            go_ret
            exact HF.out
          | [za] =>
            have hls : lk.segs = [za.1] := by rw [← hlz]; rfl
            have c2 : wr.cell? ⟨p, 2, none⟩ = some (.slice SA 1 sc) := by
              have e : wr.cell? ⟨p, 2, none⟩ = some (.slice SA lk.segs.length sc) := hda.lx.blk.cell 2 rfl
              rw [hls] at e; exact e
            have HF : Hid (LDone B S F w p g (.int .i64 r.1) r.2.1 r.2.2 (.returned (.int .i64 0)) wr) := Lib.hid (by
              rw [hdone (fun a b t e => by rw [hls] at e; cases e)]
              exact ⟨rfl, S', F', ⟨_, _, _, _, _, _, hda.lx⟩, hda.ss, hda.ff, hda.mods⟩)
            clear hda HDA hlz hch hdone hls
            go_wp2_with fail
            go_ret
            exact HF.out
          | za :: zb :: zr =>
            have hls : lk.segs = za.1 :: zb.1 :: zr.map Prod.fst := by rw [← hlz]; rfl
            have c2 : wr.cell? ⟨p, 2, none⟩ = some (.slice SA (zr.length + 2) sc) := by
              have e : wr.cell? ⟨p, 2, none⟩ = some (.slice SA lk.segs.length sc) := hda.lx.blk.cell 2 rfl
              rw [hls] at e
              simpa using e
            obtain ⟨sb, rfl⟩ : ∃ sb, SA = some ⟨sb, 0, none⟩ := by
              rcases hda.lx.lb.sv.form with ⟨_, _, h⟩ | ⟨sb, h, _⟩
              · simp at h
              · exact ⟨sb, h⟩
            have cb : wr.cell? ⟨sb, 1, none⟩ = some (.pointer (some ⟨zb.2.q, 0, none⟩)) := hda.lx.lb.sv.get (j := 1) rfl
            have ca : wr.cell? ⟨sb, 0, none⟩ = some (.pointer (some ⟨za.2.q, 0, none⟩)) := hda.lx.lb.sv.get (j := 0) rfl
            have ha := hda.lx.lb.sg za (by simp)
            have hb := hda.lx.lb.sg zb (by simp)
            have b1 : wr.cell? ⟨zb.2.q, 1, none⟩ = some (.int .u64 (zb.1.first : Int)) := hb.blk.cell 1 rfl
            have a0 : wr.cell? ⟨za.2.q, 0, none⟩ = some (.string ⟨za.1.name.toArray⟩) := ha.blk.cell 0 rfl
            have hgt : (1 : Int) < ((zr.length + 2 : Nat) : Int) := by omega
            have HC2 := Lib.hid c2
            by_cases hle : zb.1.first ≤ upto
            · have hleI : (zb.1.first : Int) ≤ (upto : Int) := by omega
              obtain ⟨k, rfl⟩ : ∃ j, k = j + 1 := ⟨k - 1, by have := hda.fuel; rw [hls] at this; simp only [List.length_cons] at this; omega⟩
              obtain ⟨q2, hq2⟩ : ∃ q2, q2 = removeW [za.1.name] lk Dk := ⟨_, rfl⟩
              have hreq : r = if q2.1 ≠ 0 then q2 else dropLoop upto k { q2.2.1 with recs := lk.recs.drop (zb.1.first - lk.first), segs := zb.1 :: zr.map Prod.fst, first := zb.1.first } q2.2.2 := by
                rw [hda.eq, hq2]
                conv => lhs; unfold dropLoop
                rw [hls]
                simp only [hle, if_true]
              rw [hls] at hch
              obtain ⟨hc1, hc2, hc3, hc4, hc5⟩ := hch
              have hcl := hc5.le
              have hnxk : lk.next = lk.first + lk.recs.length := rfl
              have hfn := hda.fine
              have hszr : w.heap.size ≤ wr.heap.size := hda.mods.size
              have hcnt2 := hda.cnt
              rw [hls] at hcnt2
              simp only [List.length_cons] at hcnt2
              have hb4 : Below wr.heap.size wr (wr.alloc (.cells #[.string ⟨za.1.name.toArray⟩] 9)) := (Below.refl _ _).alloc (Nat.le_refl _) _
              have RM := walRemove (hda.lx.below hb4) (Nat.le_trans (Nat.le_trans hB hszr) hb4.size) [za.1.name] (by simp only [List.length_cons, List.length_nil]; omega) (some ⟨wr.heap.size, 0, none⟩) 1 ((OV.lit1 wr (Nat.le_refl _) (.string ⟨za.1.name.toArray⟩) 9).rv) (fun _ b hb => by
                have e : wr.heap.size = b := by simpa using hb
                subst e
                refine ⟨fun hs => ?_, fun e => ?_⟩
                · have := hda.lx.lb.di.bnd _ hs; omega
                · have := hda.lx.blk.lt; omega) (fun f hf => by rw [List.mem_singleton.1 hf]; exact (hfn.nm za.1 (by rw [hls]; simp)).1) ⟨Nat.le_refl _, by decide⟩
              rw [← hq2] at RM
              have RMH := Lib.hid RM
              have HDB := Lib.hid hda
              have HRQ := Lib.hid hreq
              have HQ2 := Lib.hid hq2
              have HLS := Lib.hid hls
              have HCH := Lib.hid (And.intro hc1 (And.intro hc3 hc5))
              have HB4 : Hid (Below wr.heap.size wr (wr.alloc (.cells #[.string ⟨za.1.name.toArray⟩] 9))) := Lib.hid hb4
              have hk1 : zb.1.first - lk.first ≤ lk.recs.length := by omega
              have hk0 : lk.first ≤ zb.1.first := by omega
              have hrl := hfn.rl
              have hsl : zr.length + 2 ≤ 1000000 := by have := hfn.sl; rw [hls] at this; simpa using this
              have hzf : zb.1.first ≤ 1000000000000 := by have := hfn.nx; omega
              have hF3 : Hid (F' p) := Lib.hid hda.lx.fp
              clear RM hda hreq hq2 hls hc1 hc2 hc3 hc4 hc5 hcl hnxk hfn hb4 HDA hlz hdone ha hb
              go_wp2_with (go_at_call 39; refine RMH.out.mono ?_)
              rintro e w5 ⟨rfl, S5, hx5, hs5, hm5⟩
              have HM5 : Hid (Mods (fun b => S b ∨ F b) w w5) := Lib.hid ((HDB.out.mods.below HB4.out).trans hm5 (fun i hi => by
                rcases hi with hi | hi
                · exact (HDB.out.ss i hi).imp .inl id
                · rw [hi]; exact (HDB.out.ff p hF3.out).imp .inr id))
              have HS5 : Hid (∀ b, S5 b → S b ∨ w.heap.size ≤ b) := Lib.hid (fun b hb => (hs5 b hb).elim (HDB.out.ss b) (fun h => .inr (Nat.le_trans hszr (Nat.le_trans HB4.out.size h))))
              have HX5 := Lib.hid hx5
              clear hx5 hs5 hm5 RMH HB4 c2 b1 a0 ca cb
              by_cases hq0 : q2.1 = 0
              · have hqb : (q2.1 == 0) = true := by simpa using hq0
                have hok := removeW_ok (L := [za.1.name]) (D := Dk) HDB.out.up (by rw [← HQ2.out]; exact hq0)
                rw [← HQ2.out] at hok
                have HX6 := Lib.hid (HX5.out.same hok.1)
                have HC6 : Hid (q2.2.2.cnt ≤ Dk.cnt + 1) := Lib.hid hok.2
                have HR6 : Hid (r = dropLoop upto k { lk with recs := lk.recs.drop (zb.1.first - lk.first), segs := zb.1 :: zr.map Prod.fst, first := zb.1.first } q2.2.2) := Lib.hid (by
                  have h := HRQ.out
                  rw [if_neg (by rw [hq0]; simp), hok.1] at h
                  exact h)
                rw [hq0]
                clear hok HX5 HRQ HQ2 hq0 hqb
                go_upto_region 13 with fail
                obtain ⟨n1, hn1⟩ : ∃ n1, n1 = lk.recs.length := ⟨_, rfl⟩
                obtain ⟨k1, hk1d⟩ : ∃ k1, k1 = zb.1.first - lk.first := ⟨_, rfl⟩
                have hwk : IntKind.u64.wrap ((zb.1.first : Int) - (lk.first : Int)) = (k1 : Int) := by rw [IntWalk.u64_in _ (by omega)]; omega
                have hcapr := HX6.out.lb.rv.cap
                have hYl : Y.length = n1 := by rw [HX6.out.lens.2, hn1]
                rw [List.length_map, hYl] at hcapr
                have hk1n : k1 ≤ n1 := by omega
                have hn1b : n1 ≤ 1000000 := by omega
                rw [← hk1d] at HR6
                have HN1 := Lib.hid (And.intro hn1 (And.intro hk1d hYl))
                have HRD : Hid ((Y.drop k1).map Prod.fst = lk.recs.drop k1) := Lib.hid (by rw [List.map_drop, HX6.out.ys])
                have hs5r : w.heap.size ≤ w5.heap.size := HM5.out.size
                go_cut [] (fun wx => ∃ (F7 : Nat → Prop) (A6 : Option Addr) (c6 : Nat), Hid (LX B S5 F7 wx p g { lk with recs := lk.recs.drop k1 } q2.2.2 (za :: zb :: zr) (Y.drop k1) (some ⟨sb, 0, none⟩) sc A6 c6) ∧ Hid (∀ b, F7 b → F b ∨ w.heap.size ≤ b) ∧ Hid (Mods (fun b => S b ∨ F b) w wx))
                case first =>
                  by_cases hkc : k1 < rc
                  · obtain ⟨ra, rfl⟩ : ∃ ra, RA = some ⟨ra, 0, none⟩ := by
                      rcases HX6.out.lb.rv.form with ⟨_, h, _⟩ | ⟨ra, h, _⟩
                      · omega
                      · exact ⟨ra, h⟩
                    have hkI : (k1 : Int) < (rc : Int) := by omega
                    have hk0I : (0 : Int) ≤ (k1 : Int) := by omega
                    have hknI : (k1 : Int) ≤ (n1 : Int) := by omega
                    have HRV : Hid (RV w5 (some ⟨ra, k1, none⟩) ((Y.drop k1).map recV)) := Lib.hid (by
                      have := rv_drop HX6.out.lb.rv.rv k1
                      rw [Nat.zero_add, ← List.map_drop] at this
                      exact this)
                    clear hn1 hk1d hYl hk1 hk0
                    refine wp_region_planE_gen (by kernel_rfl) [(0, none), (1, none), (2, none), (3, none), (4, none), (5, none), (6, none), (7, none), (8, none), (9, none), (10, none), (11, none), (12, none), (13, none), (14, none), (15, none), (16, none), (17, none), (18, none), (19, none), (20, some [19]), (21, none), (22, none), (23, some [0, 1, 2, 3, 4, 5, 6, 7, 8, 9, 10, 11, 12, 13, 14, 15, 16, 17, 18, 19, 22])] (by kernel_rfl) (by kernel_rfl) (by decide) ?_
                    intro wq hwq
                    have hBq : Below w5.heap.size w5 wq := by rw [hwq]; exact (Below.refl _ _).drew
                    have HXQ := Lib.hid (HX6.out.below hBq)
                    have HMQ : Hid (Mods (fun b => S b ∨ F b) w wq) := Lib.hid (HM5.out.below hBq)
                    have hszq : w5.heap.size ≤ wq.heap.size := hBq.size
                    clear hwq
                    have y3 : wq.cell? ⟨p, 3, none⟩ = some (.slice (some ⟨ra, 0, none⟩) n1 rc) := by rw [HN1.out.1]; exact HXQ.out.blk.cell 3 rfl
                    have y4 : wq.cell? ⟨p, 4, none⟩ = some (.int .u64 (lk.first : Int)) := HXQ.out.blk.cell 4 rfl
                    have y2 : wq.cell? ⟨p, 2, none⟩ = some (.slice (some ⟨sb, 0, none⟩) (zr.length + 2) sc) := by
                      have e : wq.cell? ⟨p, 2, none⟩ = some (.slice (some ⟨sb, 0, none⟩) lk.segs.length sc) := HXQ.out.blk.cell 2 rfl
                      rw [HLS.out] at e
                      simpa using e
                    have yb : wq.cell? ⟨sb, 1, none⟩ = some (.pointer (some ⟨zb.2.q, 0, none⟩)) := HXQ.out.lb.sv.get (j := 1) rfl
                    have y1 : wq.cell? ⟨zb.2.q, 1, none⟩ = some (.int .u64 (zb.1.first : Int)) := (HXQ.out.lb.sg zb (by simp)).blk.cell 1 rfl
                    have CL := Lib.hid (cloneRecs (some ⟨ra, k1, none⟩) (rc - k1) ((Y.drop k1).map recV) wq (HRV.out.below hBq) (slices_one _) (by rw [List.length_map, List.length_drop, HN1.out.2.2]; omega))
                    rw [List.length_map, List.length_drop, HN1.out.2.2] at CL
                    iterate 4 (refine planE_pure (v := ?_) rfl (by rfl) (fun w' => ?_) ?_; rotate_left; (focus (simp only [List.getElem_toArray, List.getElem_cons_succ, List.getElem_cons_zero]; go_simp; first | with_reducible rfl | (simp (disch := omega) only [if_pos, if_neg, dif_pos, Result.andThen_ok]; try with_reducible rfl) | skip)); try simp only [List.getElem_toArray, List.getElem_cons_succ, List.getElem_cons_zero, Act.put, List.setIfInBounds_toArray, List.set_cons_zero, List.set_cons_succ])
                    refine planE_cells (v := ?_) [(⟨p, 3, none⟩, .slice (some ⟨ra, 0, none⟩) n1 rc)] (by simp; and_intros <;> assumption) rfl (by rfl) (fun w' hw' => ?_) ?_; rotate_left; (focus (simp only [List.forall_mem_cons, List.not_mem_nil, false_imp_iff, implies_true, and_true] at hw'; simp only [List.getElem_toArray, List.getElem_cons_succ, List.getElem_cons_zero]; go_simp; first | with_reducible rfl | (simp (disch := omega) only [if_pos, if_neg, dif_pos, Result.andThen_ok]; try with_reducible rfl) | skip)); try simp only [List.getElem_toArray, List.getElem_cons_succ, List.getElem_cons_zero, Act.put, List.setIfInBounds_toArray, List.set_cons_zero, List.set_cons_succ]
                    iterate 3 (refine planE_pure (v := ?_) rfl (by rfl) (fun w' => ?_) ?_; rotate_left; (focus (simp only [List.getElem_toArray, List.getElem_cons_succ, List.getElem_cons_zero]; go_simp; first | with_reducible rfl | (simp (disch := omega) only [if_pos, if_neg, dif_pos, Result.andThen_ok]; try with_reducible rfl) | skip)); try simp only [List.getElem_toArray, List.getElem_cons_succ, List.getElem_cons_zero, Act.put, List.setIfInBounds_toArray, List.set_cons_zero, List.set_cons_succ])
                    refine planE_cells (v := ?_) [(⟨p, 2, none⟩, .slice (some ⟨sb, 0, none⟩) (zr.length + 2) sc)] (by simp; and_intros <;> assumption) rfl (by rfl) (fun w' hw' => ?_) ?_; rotate_left; (focus (simp only [List.forall_mem_cons, List.not_mem_nil, false_imp_iff, implies_true, and_true] at hw'; simp only [List.getElem_toArray, List.getElem_cons_succ, List.getElem_cons_zero]; go_simp; first | with_reducible rfl | (simp (disch := omega) only [if_pos, if_neg, dif_pos, Result.andThen_ok]; try with_reducible rfl) | skip)); try simp only [List.getElem_toArray, List.getElem_cons_succ, List.getElem_cons_zero, Act.put, List.setIfInBounds_toArray, List.set_cons_zero, List.set_cons_succ]
                    iterate 1 (refine planE_pure (v := ?_) rfl (by rfl) (fun w' => ?_) ?_; rotate_left; (focus (simp only [List.getElem_toArray, List.getElem_cons_succ, List.getElem_cons_zero]; go_simp; first | with_reducible rfl | (simp (disch := omega) only [if_pos, if_neg, dif_pos, Result.andThen_ok]; try with_reducible rfl) | skip)); try simp only [List.getElem_toArray, List.getElem_cons_succ, List.getElem_cons_zero, Act.put, List.setIfInBounds_toArray, List.set_cons_zero, List.set_cons_succ])
                    refine planE_cells (v := ?_) [(⟨sb, 1, none⟩, .pointer (some ⟨zb.2.q, 0, none⟩))] (by simp; and_intros <;> assumption) rfl (by rfl) (fun w' hw' => ?_) ?_; rotate_left; (focus (simp only [List.forall_mem_cons, List.not_mem_nil, false_imp_iff, implies_true, and_true] at hw'; simp only [List.getElem_toArray, List.getElem_cons_succ, List.getElem_cons_zero]; go_simp; first | with_reducible rfl | (simp (disch := omega) only [if_pos, if_neg, dif_pos, Result.andThen_ok]; try with_reducible rfl) | skip)); try simp only [List.getElem_toArray, List.getElem_cons_succ, List.getElem_cons_zero, Act.put, List.setIfInBounds_toArray, List.set_cons_zero, List.set_cons_succ]
                    iterate 2 (refine planE_pure (v := ?_) rfl (by rfl) (fun w' => ?_) ?_; rotate_left; (focus (simp only [List.getElem_toArray, List.getElem_cons_succ, List.getElem_cons_zero]; go_simp; first | with_reducible rfl | (simp (disch := omega) only [if_pos, if_neg, dif_pos, Result.andThen_ok]; try with_reducible rfl) | skip)); try simp only [List.getElem_toArray, List.getElem_cons_succ, List.getElem_cons_zero, Act.put, List.setIfInBounds_toArray, List.set_cons_zero, List.set_cons_succ])
                    refine planE_cells (v := ?_) [(⟨zb.2.q, 1, none⟩, .int .u64 (zb.1.first : Int))] (by simp; and_intros <;> assumption) rfl (by rfl) (fun w' hw' => ?_) ?_; rotate_left; (focus (simp only [List.forall_mem_cons, List.not_mem_nil, false_imp_iff, implies_true, and_true] at hw'; simp only [List.getElem_toArray, List.getElem_cons_succ, List.getElem_cons_zero]; go_simp; first | with_reducible rfl | (simp (disch := omega) only [if_pos, if_neg, dif_pos, Result.andThen_ok]; try with_reducible rfl) | skip)); try simp only [List.getElem_toArray, List.getElem_cons_succ, List.getElem_cons_zero, Act.put, List.setIfInBounds_toArray, List.set_cons_zero, List.set_cons_succ]
                    iterate 3 (refine planE_pure (v := ?_) rfl (by rfl) (fun w' => ?_) ?_; rotate_left; (focus (simp only [List.getElem_toArray, List.getElem_cons_succ, List.getElem_cons_zero]; go_simp; first | with_reducible rfl | (simp (disch := omega) only [if_pos, if_neg, dif_pos, Result.andThen_ok]; try with_reducible rfl) | skip)); try simp only [List.getElem_toArray, List.getElem_cons_succ, List.getElem_cons_zero, Act.put, List.setIfInBounds_toArray, List.set_cons_zero, List.set_cons_succ])
                    refine planE_cells (v := ?_) [(⟨p, 4, none⟩, .int .u64 (lk.first : Int))] (by simp; and_intros <;> assumption) rfl (by rfl) (fun w' hw' => ?_) ?_; rotate_left; (focus (simp only [List.forall_mem_cons, List.not_mem_nil, false_imp_iff, implies_true, and_true] at hw'; simp only [List.getElem_toArray, List.getElem_cons_succ, List.getElem_cons_zero]; go_simp; first | with_reducible rfl | (simp (disch := omega) only [if_pos, if_neg, dif_pos, Result.andThen_ok]; try with_reducible rfl) | skip)); try simp only [List.getElem_toArray, List.getElem_cons_succ, List.getElem_cons_zero, Act.put, List.setIfInBounds_toArray, List.set_cons_zero, List.set_cons_succ]
                    iterate 2 (refine planE_pure (v := ?_) rfl (by rfl) (fun w' => ?_) ?_; rotate_left; (focus (simp only [List.getElem_toArray, List.getElem_cons_succ, List.getElem_cons_zero]; go_simp; first | with_reducible rfl | (simp (disch := omega) only [if_pos, if_neg, dif_pos, Result.andThen_ok]; try with_reducible rfl) | skip)); try simp only [List.getElem_toArray, List.getElem_cons_succ, List.getElem_cons_zero, Act.put, List.setIfInBounds_toArray, List.set_cons_zero, List.set_cons_succ])
                    refine planE_eff rfl (by rfl) (fun K hK => ?_)
                    go_simp
                    rw [if_neg (show ¬ rc = k1 by omega)]
                    refine CL.out.mono ?_
                    rintro e w6 ⟨A6, c6, n6, hn6, rfl, ho6, hb6⟩
                    have hn6' : n6 = Y.length - k1 := by rw [hn6, List.length_map, List.length_drop]
                    subst hn6'
                    have HX7 := Lib.hid (HXQ.out.below hb6)
                    have HM7 : Hid (Mods (fun b => S b ∨ F b) w w6) := Lib.hid (HMQ.out.below hb6)
                    have HO6 := Lib.hid ho6
                    clear y3 y4 y2 yb y1 hn6 ho6 CL
                    have y3 : w6.cell? ⟨p, 3, none⟩ = some (.slice (some ⟨ra, 0, none⟩) n1 rc) := by rw [HN1.out.1]; exact HX7.out.blk.cell 3 rfl
                    have f3 : w6.frozen? ⟨p, 3, none⟩ = false := HX7.out.blk.free 3
                    have y4 : w6.cell? ⟨p, 4, none⟩ = some (.int .u64 (lk.first : Int)) := HX7.out.blk.cell 4 rfl
                    have y2 : w6.cell? ⟨p, 2, none⟩ = some (.slice (some ⟨sb, 0, none⟩) (zr.length + 2) sc) := by
                      have e : w6.cell? ⟨p, 2, none⟩ = some (.slice (some ⟨sb, 0, none⟩) lk.segs.length sc) := HX7.out.blk.cell 2 rfl
                      rw [HLS.out] at e
                      simpa using e
                    have yb : w6.cell? ⟨sb, 1, none⟩ = some (.pointer (some ⟨zb.2.q, 0, none⟩)) := HX7.out.lb.sv.get (j := 1) rfl
                    have y1 : w6.cell? ⟨zb.2.q, 1, none⟩ = some (.int .u64 (zb.1.first : Int)) := (HX7.out.lb.sg zb (by simp)).blk.cell 1 rfl
                    refine hK _ _ (by simp [owed, left] <;> (and_intros <;> first | trivial | assumption)) ?_
                    clear hK K
                    try simp only [List.getElem_toArray, List.getElem_cons_succ, List.getElem_cons_zero, Act.put, List.setIfInBounds_toArray, List.set_cons_zero, List.set_cons_succ]
                    iterate 2 (refine planE_pure (v := ?_) rfl (by rfl) (fun w' => ?_) ?_; rotate_left; (focus (simp only [List.getElem_toArray, List.getElem_cons_succ, List.getElem_cons_zero]; go_simp; first | with_reducible rfl | (simp (disch := omega) only [if_pos, if_neg, dif_pos, Result.andThen_ok]; try with_reducible rfl) | skip)); try simp only [List.getElem_toArray, List.getElem_cons_succ, List.getElem_cons_zero, Act.put, List.setIfInBounds_toArray, List.set_cons_zero, List.set_cons_succ])
                    refine planE_eff rfl (by rfl) (fun K hK => ?_)
                    go_simp
                    skip
                    refine hK _ _ (by simp [owed, left] <;> (and_intros <;> first | trivial | assumption)) ?_
                    clear hK K
                    try simp only [List.getElem_toArray, List.getElem_cons_succ, List.getElem_cons_zero, Act.put, List.setIfInBounds_toArray, List.set_cons_zero, List.set_cons_succ]
                    refine planE_end ?_
                    have HW7 := HX7.out.wideN (n := wq.heap.size) (Nat.le_trans hB (Nat.le_trans hs5r hszq)) (fun b hb => HXQ.out.lb.di.bnd b hb)
                    have HS7 := HW7.setRecs (Y' := Y.drop k1) (fun y hy => List.mem_of_mem_drop hy) (HO6.out.base_le (Nat.le_trans hB (Nat.le_trans hs5r hszq))) (fun b hb => .inr (HO6.out.blk_lt b hb)) (n := Y.length - k1) (by rw [List.length_drop])
                    rw [HRD.out] at HS7
                    have HFS := Lib.hid HS7
                    have HFM : Hid (Mods (fun b => S b ∨ F b) w (w6.setCell ⟨p, 3, none⟩ (.slice A6 (Y.length - k1) c6))) := Lib.hid (HM7.out.trans ((Mods.refl (· = p) w6).setCell ⟨p, 3, none⟩ (.inl rfl) (.slice A6 (Y.length - k1) c6)) (fun i hi => by
                      rw [hi]; exact (HDB.out.ff p hF3.out).imp .inr id))
                    have HFF : Hid (∀ b, (F' b ∨ (wq.heap.size ≤ b ∧ b < w6.heap.size)) → F b ∨ w.heap.size ≤ b) := Lib.hid (fun b hb => hb.elim (HDB.out.ff b) (fun hb => .inr (by omega)))
                    clear HW7 HS7 HX7 HM7 HO6 HXQ HMQ y3 y4 y2 yb y1 f3 hb6 HX6 HM5
                    go_wp2_with fail
                    go_meet
                    exact ⟨_, _, _, HFS, HFF, HFM⟩
                  · have hkI : ¬ (k1 : Int) < (rc : Int) := by omega
                    have hk0I : (0 : Int) ≤ (k1 : Int) := by omega
                    have hknI : (k1 : Int) ≤ (n1 : Int) := by omega
                    have HRV : Hid (RV w5 RA ((Y.drop k1).map recV)) := Lib.hid (by
                      rw [List.drop_eq_nil_of_le (by omega)]
                      exact ⟨fun h => absurd h (by simp)⟩)
                    clear hn1 hk1d hYl hk1 hk0
                    refine wp_region_planE_gen (by kernel_rfl) [(0, none), (1, none), (2, none), (3, none), (4, none), (5, none), (6, none), (7, none), (8, none), (9, none), (10, none), (11, none), (12, none), (13, none), (14, none), (15, none), (16, none), (17, none), (18, none), (19, none), (20, some [19]), (21, none), (22, none), (23, some [0, 1, 2, 3, 4, 5, 6, 7, 8, 9, 10, 11, 12, 13, 14, 15, 16, 17, 18, 19, 22])] (by kernel_rfl) (by kernel_rfl) (by decide) ?_
                    intro wq hwq
                    have hBq : Below w5.heap.size w5 wq := by rw [hwq]; exact (Below.refl _ _).drew
                    have HXQ := Lib.hid (HX6.out.below hBq)
                    have HMQ : Hid (Mods (fun b => S b ∨ F b) w wq) := Lib.hid (HM5.out.below hBq)
                    have hszq : w5.heap.size ≤ wq.heap.size := hBq.size
                    clear hwq
                    have y3 : wq.cell? ⟨p, 3, none⟩ = some (.slice RA n1 rc) := by rw [HN1.out.1]; exact HXQ.out.blk.cell 3 rfl
                    have y4 : wq.cell? ⟨p, 4, none⟩ = some (.int .u64 (lk.first : Int)) := HXQ.out.blk.cell 4 rfl
                    have y2 : wq.cell? ⟨p, 2, none⟩ = some (.slice (some ⟨sb, 0, none⟩) (zr.length + 2) sc) := by
                      have e : wq.cell? ⟨p, 2, none⟩ = some (.slice (some ⟨sb, 0, none⟩) lk.segs.length sc) := HXQ.out.blk.cell 2 rfl
                      rw [HLS.out] at e
                      simpa using e
                    have yb : wq.cell? ⟨sb, 1, none⟩ = some (.pointer (some ⟨zb.2.q, 0, none⟩)) := HXQ.out.lb.sv.get (j := 1) rfl
                    have y1 : wq.cell? ⟨zb.2.q, 1, none⟩ = some (.int .u64 (zb.1.first : Int)) := (HXQ.out.lb.sg zb (by simp)).blk.cell 1 rfl
                    have CL := Lib.hid (cloneRecs RA (rc - k1) ((Y.drop k1).map recV) wq (HRV.out.below hBq) (slices_one _) (by rw [List.length_map, List.length_drop, HN1.out.2.2]; omega))
                    rw [List.length_map, List.length_drop, HN1.out.2.2] at CL
                    iterate 4 (refine planE_pure (v := ?_) rfl (by rfl) (fun w' => ?_) ?_; rotate_left; (focus (simp only [List.getElem_toArray, List.getElem_cons_succ, List.getElem_cons_zero]; go_simp; first | with_reducible rfl | (simp (disch := omega) only [if_pos, if_neg, dif_pos, Result.andThen_ok]; try with_reducible rfl) | skip)); try simp only [List.getElem_toArray, List.getElem_cons_succ, List.getElem_cons_zero, Act.put, List.setIfInBounds_toArray, List.set_cons_zero, List.set_cons_succ])
                    refine planE_cells (v := ?_) [(⟨p, 3, none⟩, .slice RA n1 rc)] (by simp; and_intros <;> assumption) rfl (by rfl) (fun w' hw' => ?_) ?_; rotate_left; (focus (simp only [List.forall_mem_cons, List.not_mem_nil, false_imp_iff, implies_true, and_true] at hw'; simp only [List.getElem_toArray, List.getElem_cons_succ, List.getElem_cons_zero]; go_simp; first | with_reducible rfl | (simp (disch := omega) only [if_pos, if_neg, dif_pos, Result.andThen_ok]; try with_reducible rfl) | skip)); try simp only [List.getElem_toArray, List.getElem_cons_succ, List.getElem_cons_zero, Act.put, List.setIfInBounds_toArray, List.set_cons_zero, List.set_cons_succ]
                    iterate 3 (refine planE_pure (v := ?_) rfl (by rfl) (fun w' => ?_) ?_; rotate_left; (focus (simp only [List.getElem_toArray, List.getElem_cons_succ, List.getElem_cons_zero]; go_simp; first | with_reducible rfl | (simp (disch := omega) only [if_pos, if_neg, dif_pos, Result.andThen_ok]; try with_reducible rfl) | skip)); try simp only [List.getElem_toArray, List.getElem_cons_succ, List.getElem_cons_zero, Act.put, List.setIfInBounds_toArray, List.set_cons_zero, List.set_cons_succ])
                    refine planE_cells (v := ?_) [(⟨p, 2, none⟩, .slice (some ⟨sb, 0, none⟩) (zr.length + 2) sc)] (by simp; and_intros <;> assumption) rfl (by rfl) (fun w' hw' => ?_) ?_; rotate_left; (focus (simp only [List.forall_mem_cons, List.not_mem_nil, false_imp_iff, implies_true, and_true] at hw'; simp only [List.getElem_toArray, List.getElem_cons_succ, List.getElem_cons_zero]; go_simp; first | with_reducible rfl | (simp (disch := omega) only [if_pos, if_neg, dif_pos, Result.andThen_ok]; try with_reducible rfl) | skip)); try simp only [List.getElem_toArray, List.getElem_cons_succ, List.getElem_cons_zero, Act.put, List.setIfInBounds_toArray, List.set_cons_zero, List.set_cons_succ]
                    iterate 1 (refine planE_pure (v := ?_) rfl (by rfl) (fun w' => ?_) ?_; rotate_left; (focus (simp only [List.getElem_toArray, List.getElem_cons_succ, List.getElem_cons_zero]; go_simp; first | with_reducible rfl | (simp (disch := omega) only [if_pos, if_neg, dif_pos, Result.andThen_ok]; try with_reducible rfl) | skip)); try simp only [List.getElem_toArray, List.getElem_cons_succ, List.getElem_cons_zero, Act.put, List.setIfInBounds_toArray, List.set_cons_zero, List.set_cons_succ])
                    refine planE_cells (v := ?_) [(⟨sb, 1, none⟩, .pointer (some ⟨zb.2.q, 0, none⟩))] (by simp; and_intros <;> assumption) rfl (by rfl) (fun w' hw' => ?_) ?_; rotate_left; (focus (simp only [List.forall_mem_cons, List.not_mem_nil, false_imp_iff, implies_true, and_true] at hw'; simp only [List.getElem_toArray, List.getElem_cons_succ, List.getElem_cons_zero]; go_simp; first | with_reducible rfl | (simp (disch := omega) only [if_pos, if_neg, dif_pos, Result.andThen_ok]; try with_reducible rfl) | skip)); try simp only [List.getElem_toArray, List.getElem_cons_succ, List.getElem_cons_zero, Act.put, List.setIfInBounds_toArray, List.set_cons_zero, List.set_cons_succ]
                    iterate 2 (refine planE_pure (v := ?_) rfl (by rfl) (fun w' => ?_) ?_; rotate_left; (focus (simp only [List.getElem_toArray, List.getElem_cons_succ, List.getElem_cons_zero]; go_simp; first | with_reducible rfl | (simp (disch := omega) only [if_pos, if_neg, dif_pos, Result.andThen_ok]; try with_reducible rfl) | skip)); try simp only [List.getElem_toArray, List.getElem_cons_succ, List.getElem_cons_zero, Act.put, List.setIfInBounds_toArray, List.set_cons_zero, List.set_cons_succ])
                    refine planE_cells (v := ?_) [(⟨zb.2.q, 1, none⟩, .int .u64 (zb.1.first : Int))] (by simp; and_intros <;> assumption) rfl (by rfl) (fun w' hw' => ?_) ?_; rotate_left; (focus (simp only [List.forall_mem_cons, List.not_mem_nil, false_imp_iff, implies_true, and_true] at hw'; simp only [List.getElem_toArray, List.getElem_cons_succ, List.getElem_cons_zero]; go_simp; first | with_reducible rfl | (simp (disch := omega) only [if_pos, if_neg, dif_pos, Result.andThen_ok]; try with_reducible rfl) | skip)); try simp only [List.getElem_toArray, List.getElem_cons_succ, List.getElem_cons_zero, Act.put, List.setIfInBounds_toArray, List.set_cons_zero, List.set_cons_succ]
                    iterate 3 (refine planE_pure (v := ?_) rfl (by rfl) (fun w' => ?_) ?_; rotate_left; (focus (simp only [List.getElem_toArray, List.getElem_cons_succ, List.getElem_cons_zero]; go_simp; first | with_reducible rfl | (simp (disch := omega) only [if_pos, if_neg, dif_pos, Result.andThen_ok]; try with_reducible rfl) | skip)); try simp only [List.getElem_toArray, List.getElem_cons_succ, List.getElem_cons_zero, Act.put, List.setIfInBounds_toArray, List.set_cons_zero, List.set_cons_succ])
                    refine planE_cells (v := ?_) [(⟨p, 4, none⟩, .int .u64 (lk.first : Int))] (by simp; and_intros <;> assumption) rfl (by rfl) (fun w' hw' => ?_) ?_; rotate_left; (focus (simp only [List.forall_mem_cons, List.not_mem_nil, false_imp_iff, implies_true, and_true] at hw'; simp only [List.getElem_toArray, List.getElem_cons_succ, List.getElem_cons_zero]; go_simp; first | with_reducible rfl | (simp (disch := omega) only [if_pos, if_neg, dif_pos, Result.andThen_ok]; try with_reducible rfl) | skip)); try simp only [List.getElem_toArray, List.getElem_cons_succ, List.getElem_cons_zero, Act.put, List.setIfInBounds_toArray, List.set_cons_zero, List.set_cons_succ]
                    iterate 2 (refine planE_pure (v := ?_) rfl (by rfl) (fun w' => ?_) ?_; rotate_left; (focus (simp only [List.getElem_toArray, List.getElem_cons_succ, List.getElem_cons_zero]; go_simp; first | with_reducible rfl | (simp (disch := omega) only [if_pos, if_neg, dif_pos, Result.andThen_ok]; try with_reducible rfl) | skip)); try simp only [List.getElem_toArray, List.getElem_cons_succ, List.getElem_cons_zero, Act.put, List.setIfInBounds_toArray, List.set_cons_zero, List.set_cons_succ])
                    refine planE_eff rfl (by rfl) (fun K hK => ?_)
                    go_simp
                    rw [if_pos (show rc = k1 by omega)]
                    refine CL.out.mono ?_
                    rintro e w6 ⟨A6, c6, n6, hn6, rfl, ho6, hb6⟩
                    have hn6' : n6 = Y.length - k1 := by rw [hn6, List.length_map, List.length_drop]
                    subst hn6'
                    have HX7 := Lib.hid (HXQ.out.below hb6)
                    have HM7 : Hid (Mods (fun b => S b ∨ F b) w w6) := Lib.hid (HMQ.out.below hb6)
                    have HO6 := Lib.hid ho6
                    clear y3 y4 y2 yb y1 hn6 ho6 CL
                    have y3 : w6.cell? ⟨p, 3, none⟩ = some (.slice RA n1 rc) := by rw [HN1.out.1]; exact HX7.out.blk.cell 3 rfl
                    have f3 : w6.frozen? ⟨p, 3, none⟩ = false := HX7.out.blk.free 3
                    have y4 : w6.cell? ⟨p, 4, none⟩ = some (.int .u64 (lk.first : Int)) := HX7.out.blk.cell 4 rfl
                    have y2 : w6.cell? ⟨p, 2, none⟩ = some (.slice (some ⟨sb, 0, none⟩) (zr.length + 2) sc) := by
                      have e : w6.cell? ⟨p, 2, none⟩ = some (.slice (some ⟨sb, 0, none⟩) lk.segs.length sc) := HX7.out.blk.cell 2 rfl
                      rw [HLS.out] at e
                      simpa using e
                    have yb : w6.cell? ⟨sb, 1, none⟩ = some (.pointer (some ⟨zb.2.q, 0, none⟩)) := HX7.out.lb.sv.get (j := 1) rfl
                    have y1 : w6.cell? ⟨zb.2.q, 1, none⟩ = some (.int .u64 (zb.1.first : Int)) := (HX7.out.lb.sg zb (by simp)).blk.cell 1 rfl
                    refine hK _ _ (by simp [owed, left] <;> (and_intros <;> first | trivial | assumption)) ?_
                    clear hK K
                    try simp only [List.getElem_toArray, List.getElem_cons_succ, List.getElem_cons_zero, Act.put, List.setIfInBounds_toArray, List.set_cons_zero, List.set_cons_succ]
                    iterate 2 (refine planE_pure (v := ?_) rfl (by rfl) (fun w' => ?_) ?_; rotate_left; (focus (simp only [List.getElem_toArray, List.getElem_cons_succ, List.getElem_cons_zero]; go_simp; first | with_reducible rfl | (simp (disch := omega) only [if_pos, if_neg, dif_pos, Result.andThen_ok]; try with_reducible rfl) | skip)); try simp only [List.getElem_toArray, List.getElem_cons_succ, List.getElem_cons_zero, Act.put, List.setIfInBounds_toArray, List.set_cons_zero, List.set_cons_succ])
                    refine planE_eff rfl (by rfl) (fun K hK => ?_)
                    go_simp
                    skip
                    refine hK _ _ (by simp [owed, left] <;> (and_intros <;> first | trivial | assumption)) ?_
                    clear hK K
                    try simp only [List.getElem_toArray, List.getElem_cons_succ, List.getElem_cons_zero, Act.put, List.setIfInBounds_toArray, List.set_cons_zero, List.set_cons_succ]
                    refine planE_end ?_
                    have HW7 := HX7.out.wideN (n := wq.heap.size) (Nat.le_trans hB (Nat.le_trans hs5r hszq)) (fun b hb => HXQ.out.lb.di.bnd b hb)
                    have HS7 := HW7.setRecs (Y' := Y.drop k1) (fun y hy => List.mem_of_mem_drop hy) (HO6.out.base_le (Nat.le_trans hB (Nat.le_trans hs5r hszq))) (fun b hb => .inr (HO6.out.blk_lt b hb)) (n := Y.length - k1) (by rw [List.length_drop])
                    rw [HRD.out] at HS7
                    have HFS := Lib.hid HS7
                    have HFM : Hid (Mods (fun b => S b ∨ F b) w (w6.setCell ⟨p, 3, none⟩ (.slice A6 (Y.length - k1) c6))) := Lib.hid (HM7.out.trans ((Mods.refl (· = p) w6).setCell ⟨p, 3, none⟩ (.inl rfl) (.slice A6 (Y.length - k1) c6)) (fun i hi => by
                      rw [hi]; exact (HDB.out.ff p hF3.out).imp .inr id))
                    have HFF : Hid (∀ b, (F' b ∨ (wq.heap.size ≤ b ∧ b < w6.heap.size)) → F b ∨ w.heap.size ≤ b) := Lib.hid (fun b hb => hb.elim (HDB.out.ff b) (fun hb => .inr (by omega)))
                    clear HW7 HS7 HX7 HM7 HO6 HXQ HMQ y3 y4 y2 yb y1 f3 hb6 HX6 HM5
                    go_wp2_with fail
                    go_meet
                    exact ⟨_, _, _, HFS, HFF, HFM⟩
                case rest =>
                  obtain ⟨F7, A6, c6, HX7, HF7, HM7⟩ := hcut
                  have hsw : w.heap.size ≤ wc.heap.size := HM7.out.size
                  clear HX6 HM5 hcapr hs5r
                  have HSD : Hid (∀ b, S5 b → b < wc.heap.size) := Lib.hid (fun b hb => HX7.out.lb.di.bnd b hb)
                  go_upto_region 14 with fail
                  go_cut [] (fun wx => ∃ (F8 : Nat → Prop) (A8 : Option Addr) (c8 : Nat), Hid (LX B S5 F8 wx p g { lk with recs := lk.recs.drop k1, segs := zb.1 :: zr.map Prod.fst } q2.2.2 (zb :: zr) (Y.drop k1) A8 c8 A6 c6) ∧ Hid (∀ b, F8 b → F b ∨ w.heap.size ≤ b) ∧ Hid (Mods (fun b => S b ∨ F b) w wx))
                  case first =>
                    have hcs := HX7.out.lb.sv.cap
                    simp only [List.length_map, List.length_cons] at hcs
                    have hcI : (1 : Int) < (sc : Int) := by omega
                    have y2 : wc.cell? ⟨p, 2, none⟩ = some (.slice (some ⟨sb, 0, none⟩) (zr.length + 2) sc) := by
                      have e : wc.cell? ⟨p, 2, none⟩ = some (.slice (some ⟨sb, 0, none⟩) lk.segs.length sc) := HX7.out.blk.cell 2 rfl
                      rw [HLS.out] at e
                      simpa using e
                    have HRV : Hid (RV wc (some ⟨sb, 1, none⟩) ((zb :: zr).map ptrV)) := Lib.hid (rv_drop HX7.out.lb.sv.rv 1)
                    have CL := Lib.hid (cloneSegs (some ⟨sb, 1, none⟩) (sc - 1) ((zb :: zr).map ptrV) wc HRV.out (ptrs_one _) (by simp; omega))
                    rw [List.length_map, List.length_cons] at CL
                    clear hcs
                    go_wp2_with (go_at_call 41; go_loud (refine CL.out.mono ?_))
                    rintro e w8 ⟨A8, c8, n8, hn8, rfl, ho8, hb8⟩
                    have hn8' : n8 = zr.length + 1 := by rw [hn8, List.length_map, List.length_cons]
                    subst hn8'
                    have HX8 := HX7.out.below hb8
                    have HW8 := HX8.wideN (n := wc.heap.size) (Nat.le_trans hB hsw) HSD.out
                    have HS8 := HW8.setSegs (Z' := zb :: zr) (List.sublist_cons_self _ _) (ho8.base_le (Nat.le_trans hB hsw)) (fun b hb => .inr (ho8.blk_lt b hb)) (n := zr.length + 1) rfl
                    have HFS : Hid (LX B S5 (fun b => F7 b ∨ (wc.heap.size ≤ b ∧ b < w8.heap.size)) (w8.setCell ⟨p, 2, none⟩ (.slice A8 (zr.length + 1) c8)) p g { lk with recs := lk.recs.drop k1, segs := zb.1 :: zr.map Prod.fst } q2.2.2 (zb :: zr) (Y.drop k1) A8 c8 A6 c6) := Lib.hid HS8
                    have HFM : Hid (Mods (fun b => S b ∨ F b) w (w8.setCell ⟨p, 2, none⟩ (.slice A8 (zr.length + 1) c8))) := Lib.hid ((HM7.out.below hb8).trans ((Mods.refl (· = p) w8).setCell ⟨p, 2, none⟩ (.inl rfl) (.slice A8 (zr.length + 1) c8)) (fun i hi => by
                      rw [hi]; exact (HDB.out.ff p hF3.out).imp .inr id))
                    have HFF : Hid (∀ b, (F7 b ∨ (wc.heap.size ≤ b ∧ b < w8.heap.size)) → F b ∨ w.heap.size ≤ b) := Lib.hid (fun b hb => hb.elim (HF7.out b) (fun hb => .inr (by omega)))
                    have y2 : w8.cell? ⟨p, 2, none⟩ = some (.slice (some ⟨sb, 0, none⟩) (zr.length + 2) sc) := by
                      have e : w8.cell? ⟨p, 2, none⟩ = some (.slice (some ⟨sb, 0, none⟩) lk.segs.length sc) := HX8.blk.cell 2 rfl
                      rw [HLS.out] at e
                      simpa using e
                    have f2 : w8.frozen? ⟨p, 2, none⟩ = false := HX8.blk.free 2
                    clear HX8 HW8 HS8 hn8 ho8 hb8 CL HRV HX7 HM7 HF7
                    go_wp2_with fail
                    go_meet
                    exact ⟨_, _, _, HFS, HFF, HFM⟩
                  case rest =>
                    obtain ⟨F8, A8, c8, HX8, HF8, HM8⟩ := hcut
                    have hk9 : Hid (F8 p) := Lib.hid HX8.out.fp
                    have HDB2 : Hid (lk.down = false ∧ Dk.cnt + lk.segs.length ≤ 500000 ∧ lk.segs.length ≤ k + 1 ∧ lk.fineD) := Lib.hid ⟨HDB.out.up, HDB.out.cnt, HDB.out.fuel, HDB.out.fine⟩
                    clear HX7 HM7 HF7 hsw HSD HDB HRD
                    obtain ⟨s8, rfl⟩ : ∃ s8, A8 = some ⟨s8, 0, none⟩ := by
                      rcases HX8.out.lb.sv.form with ⟨_, _, h⟩ | ⟨s8, h, _⟩
                      · simp at h
                      · exact ⟨s8, h⟩
                    have y2 : wc.cell? ⟨p, 2, none⟩ = some (.slice (some ⟨s8, 0, none⟩) (zr.length + 1) c8) := by
                      have e : wc.cell? ⟨p, 2, none⟩ = some (.slice (some ⟨s8, 0, none⟩) (zb.1 :: zr.map Prod.fst).length c8) := HX8.out.blk.cell 2 rfl
                      simpa using e
                    have yb : wc.cell? ⟨s8, 0, none⟩ = some (.pointer (some ⟨zb.2.q, 0, none⟩)) := HX8.out.lb.sv.get (j := 0) rfl
                    have y1 : wc.cell? ⟨zb.2.q, 1, none⟩ = some (.int .u64 (zb.1.first : Int)) := (HX8.out.lb.sg zb (by simp)).blk.cell 1 rfl
                    have y4 : wc.cell? ⟨p, 4, none⟩ = some (.int .u64 (lk.first : Int)) := HX8.out.blk.cell 4 rfl
                    have f4 : wc.frozen? ⟨p, 4, none⟩ = false := HX8.out.blk.free 4
                    have HX9 : Hid (LX B S5 F8 (wc.setCell ⟨p, 4, none⟩ (.int .u64 (zb.1.first : Int))) p g { lk with recs := lk.recs.drop k1, segs := zb.1 :: zr.map Prod.fst, first := zb.1.first } q2.2.2 (zb :: zr) (Y.drop k1) (some ⟨s8, 0, none⟩) c8 A6 c6) := Lib.hid (HX8.out.set 4 (.int .u64 (zb.1.first : Int)) rfl rfl rfl)
                    have HM9 : Hid (Mods (fun b => S b ∨ F b) w (wc.setCell ⟨p, 4, none⟩ (.int .u64 (zb.1.first : Int)))) := Lib.hid (HM8.out.trans ((Mods.refl (· = p) wc).setCell ⟨p, 4, none⟩ (.inl rfl) (.int .u64 (zb.1.first : Int))) (fun i hi => by
                      rw [hi]; exact (HF8.out p hk9.out).imp .inr id))
                    have HNX : Hid (DrpAt B S F w p g upto r (wc.setCell ⟨p, 4, none⟩ (.int .u64 (zb.1.first : Int))) S5 F8 { lk with recs := lk.recs.drop k1, segs := zb.1 :: zr.map Prod.fst, first := zb.1.first } q2.2.2 (zb :: zr) (Y.drop k1) (some ⟨s8, 0, none⟩) c8 A6 c6 k) := Lib.hid (by
                      obtain ⟨d1, d2, d3, d4⟩ := HDB2.out
                      have hls := HLS.out
                      have hc := HCH.out
                      have hnk : lk.next = lk.first + lk.recs.length := rfl
                      have hnn : ({ lk with recs := lk.recs.drop k1, segs := zb.1 :: zr.map Prod.fst, first := zb.1.first } : Lg).next = lk.next := by
                        show zb.1.first + (lk.recs.drop k1).length = _
                        rw [List.length_drop]
                        omega
                      rw [hls] at d2 d3
                      simp only [List.length_cons] at d2 d3
                      refine ⟨HX9.out, HS5.out, HF8.out, HM9.out, ?_, by simp only [List.length_cons]; omega, d1, ?_, ⟨fun s hs => d4.nm s (by rw [hls]; exact List.mem_cons_of_mem _ hs), by rw [hnn]; exact d4.nx, ?_, ?_⟩, ?_⟩
                      · exact HR6.out
                      · show SegsCh (zb.1 :: zr.map Prod.fst) zb.1.first _
                        rw [hnn]
                        have h3 := hc.2.2
                        rw [← hc.2.1] at h3
                        exact ⟨rfl, by have := (HX9.out.lb.sg zb (by simp)).pos; exact this, h3⟩
                      · have := d4.sl; rw [hls] at this; simp only [List.length_cons] at this ⊢; omega
                      · show (lk.recs.drop k1).length ≤ _
                        rw [List.length_drop]; have := d4.rl; omega
                      · have := HC6.out
                        simp only [List.length_cons]
                        omega)
                    have hms : Hid (∃ X c, (wc.setCell ⟨p, 4, none⟩ (.int .u64 (zb.1.first : Int))).cell? ⟨p, 2, none⟩ = some (.slice X (zr.length + 1) c)) := Lib.hid ⟨_, _, by
                      have e : (wc.setCell ⟨p, 4, none⟩ (.int .u64 (zb.1.first : Int))).cell? ⟨p, 2, none⟩ = some (.slice (some ⟨s8, 0, none⟩) (zb.1 :: zr.map Prod.fst).length c8) := HX9.out.blk.cell 2 rfl
                      rw [List.length_cons, List.length_map] at e
                      exact e⟩
                    clear HX8 HM8 HF8 HX9 HM9 HDB2 HCH HR6 HC6
                    go_wp2_with fail
                    go_roundw
                    case rel => exact ⟨_, _, _, _, _, _, _, _, _, _, _, HNX⟩
                    case measure =>
                      obtain ⟨X, c, e⟩ := hms.out
                      simp only [e, HC2.out]
                      omega
              · have hqb : (q2.1 == 0) = false := by simpa using hq0
                have HF : Hid (LDone B S F w p g (.int .i64 r.1) r.2.1 r.2.2 (.returned (.int .i64 q2.1)) w5) := Lib.hid (by
                  rw [HRQ.out, if_pos hq0]
                  exact ⟨rfl, S5, F', ⟨_, _, _, _, _, _, HX5.out⟩, HS5.out, HDB.out.ff, HM5.out⟩)
                clear HX5 HM5 HS5 HDB HRQ HQ2 hq0
                go_wp2_with fail
                go_ret
                exact HF.out
            · have hleI : ¬ (zb.1.first : Int) ≤ (upto : Int) := by omega
              have HF : Hid (LDone B S F w p g (.int .i64 r.1) r.2.1 r.2.2 (.returned (.int .i64 0)) wr) := Lib.hid (by
                rw [hdone (fun a b t e => by rw [hls] at e; injection e with _ e; injection e with e _; rw [← e]; exact hle)]
                exact ⟨rfl, S', F', ⟨_, _, _, _, _, _, hda.lx⟩, hda.ss, hda.ff, hda.mods⟩)
              clear hda HDA hlz hch hdone hls ha hb a0 ca
              go_wp2_with fail
              go_ret
              exact HF.out
      · have hqb : (q.1 == 0) = false := by simpa using hq0
        have HF : Hid (LDone B S F w p g (.int .i64 r.1) r.2.1 r.2.2 (.returned (.int .i64 q.1)) w3) := Lib.hid (by
          rw [HR.out, if_pos hq0]
          exact ⟨rfl, S3, F, ⟨_, _, _, _, _, _, HX3.out⟩, HS3.out, fun b hb => .inl hb, HM3.out⟩)
        clear HX3 HS3 HM3 HR HQ HX hq0
        go_wp2_with fail
        go_ret
        exact HF.out
end
end Go.Proofs.YtjgonfnpfbifjaaGreatDoor
/- Package wal's Cut. -/
namespace Go.Proofs.YtjgonfnpfbifjaaGreatDoor
open Go.RowKit

theorem str_info3 : (Tryz.prog.info? 9).map (fun i => (i.zero, i.size, i.bytes)) = some (some (.string ⟨#[]⟩), 1, 16) := by kernel_rfl
/-- Cut's search from above: the last segment that begins no later. -/
def downTo (t : Nat) (L : List Sg) : Nat → Nat
  | 0 => 0
  | k + 1 => if t < ((L[k + 1]?).map Sg.first).getD 0 then downTo t L k else k + 1
def wcutC (l : Lg) (D : DSt) (t k : Nat) : Int × Lg × DSt :=
  if (syncW l D).1 ≠ 0 then syncW l D
  else removeW ((l.segs.drop k).map Sg.name) { (syncW l D).2.1 with segs := l.segs.take k, recs := l.recs.take (t - l.first) } (syncW l D).2.2
def wcutB (l : Lg) (D : DSt) (t k : Nat) (s : Sg) : Int × Lg × DSt :=
  if 0 < t - s.first ∨ k = 0 then
    if (cutS D s.name (s.marks.getD (t - s.first) 0)).1 ≠ 0 then ((cutS D s.name (s.marks.getD (t - s.first) 0)).1, l.fell (cutS D s.name (s.marks.getD (t - s.first) 0)).1, (cutS D s.name (s.marks.getD (t - s.first) 0)).2)
    else wcutC { l with segs := l.segs.set k { s with marks := s.marks.take (t - s.first + 1) } } (cutS D s.name (s.marks.getD (t - s.first) 0)).2 t (k + 1)
  else if (rmD D s.name).1 ≠ 0 then ((rmD D s.name).1, l.fell (rmD D s.name).1, (rmD D s.name).2)
  else wcutC l (rmD D s.name).2 t k
def wcutA (l : Lg) (D : DSt) (t : Nat) : Int × Lg × DSt :=
  match l.segs[downTo t l.segs (l.segs.length - 1)]? with
  | some s => wcutB l D t (downTo t l.segs (l.segs.length - 1)) s
  | none => (0, l, D)
def wcutW (l : Lg) (D : DSt) (t : Nat) : Int × Lg × DSt :=
  if l.down = true then (11, l, D) else if t < l.first then (13, l, D) else if l.next < t then (12, l, D) else if t = l.next then syncW l D
  else if (syncW l D).1 ≠ 0 then syncW l D
  else wcutA (syncW l D).2.1 (syncW l D).2.2 t
theorem SegsCh.get : ∀ {L : List Sg} {f n k : Nat} {s : Sg}, SegsCh L f n → L[k]? = some s → f ≤ s.first ∧ 0 < s.marks.length ∧ s.first + (s.marks.length - 1) ≤ n ∧ (k + 1 = L.length → s.first + (s.marks.length - 1) = n) ∧ (∀ t, L[k + 1]? = some t → t.first = s.first + (s.marks.length - 1)) ∧ (k = 0 → s.first = f)
  | [], f, n, k, s, h, e => by simp at e
  | a :: r, f, n, 0, s, h, e => by
    simp only [List.getElem?_cons_zero, Option.some.injEq] at e
    subst e
    obtain ⟨h1, h2, h3⟩ := h
    refine ⟨by omega, h2, by have := h3.le; omega, fun e => ?_, fun t ht => ?_, fun _ => h1⟩
    · have : r = [] := by
        cases r with
        | nil => rfl
        | cons b t => simp at e
      subst this
      have h4 : f + (a.marks.length - 1) = n := h3
      omega
    · cases r with
      | nil => simp at ht
      | cons b r =>
        simp only [List.getElem?_cons_succ, List.getElem?_cons_zero, Option.some.injEq] at ht
        subst ht
        have := h3.1
        omega
  | a :: r, f, n, k + 1, s, h, e => by
    obtain ⟨h1, h2, h3⟩ := h
    rw [List.getElem?_cons_succ] at e
    obtain ⟨g1, g2, g3, g4, g5, g6⟩ := h3.get e
    refine ⟨by omega, g2, g3, fun e' => g4 (by simp only [List.length_cons] at e'; omega), fun t ht => g5 t (by rw [List.getElem?_cons_succ] at ht; exact ht), fun e' => by omega⟩
section
variable {B p g sc rc : Nat} {S F F' T : Nat → Prop} {w w' wr : World} {l l' : Lg} {D D' : DSt} {Z Z' Z1 Z2 : List (Sg × Pl)} {Y Y' : List (List UInt8 × Option Addr × Nat)} {SA RA SA' RA' : Option Addr} {s s' : Sg} {z : Pl} {sc' rc' n : Nat}
set_option maxRecDepth 20000 in
set_option maxHeartbeats 8000000 in
theorem walCut (h : LX B S F w p g l D Z Y SA sc RA rc) (hB : B ≤ w.heap.size) (t : Nat) (hup : t ≤ 1000000000000) (hch : l.chain) (hne : l.segs ≠ []) (hfine : l.fineD) (hmk : ∀ s ∈ l.segs, ∀ m ∈ s.marks, m ≤ 1000000000) (hcnt : D.cnt + l.segs.length ≤ 500000) :
    Calls Tryz.prog 17 #[.pointer (some ⟨p, 0, none⟩), .int .u64 (t : Int)] w (LDone B S F w p g (.int .i64 (wcutW l D t).1) (wcutW l D t).2.1 (wcutW l D t).2.2) := by
  have AL := Lib.hid (walAlive h.blk l.down rfl)
  have hnx := hfine.nx
  have hnn : l.next = l.first + l.recs.length := rfl
  have y4 : w.cell? ⟨p, 4, none⟩ = some (.int .u64 (l.first : Int)) := h.blk.cell 4 rfl
  have DONE : ∀ (e : Int) (v : World), Below w.heap.size w v → LDone B S F w p g (.int .i64 e) l D (.returned (.int .i64 e)) v := fun e v hv => ⟨rfl, S, F, ⟨_, _, _, _, _, _, h.below hv⟩, fun b hb => .inl hb, fun b hb => .inl hb, Mods.of_below hv⟩
  cases hd : l.down with
  | true =>
    rw [hd, if_pos rfl] at AL
    have e : wcutW l D t = (11, l, D) := by unfold wcutW; rw [if_pos hd]
    rw [e]
    have HF := Lib.hid (DONE 11 w (Below.refl _ _))
    clear h hcnt hd e hch hfine y4 hmk hne DONE
    go_enter Tryz.func17, Tryz.ntmps17
    go_wp2_with (go_at_call 27; refine AL.out.mono ?_)
    first | rintro e w1 rfl rfl | rintro e w1 ⟨rfl, rfl⟩
    clear AL
    go_wp2_with fail
    go_ret
    exact HF.out
  | false =>
    rw [hd, if_neg (by simp)] at AL
    have NX : Hid (∀ v, Below w.heap.size w v → Calls Tryz.prog 14 #[.pointer (some ⟨p, 0, none⟩)] v fun e w' => e = .returned (.int .u64 ((l.first + l.recs.length : Nat) : Int)) ∧ ∃ m, w' = v.drewN m) := Lib.hid (fun v hv => walNext (h.blk.kept hv) l.first l.recs.length rc RA rfl rfl (by omega))
    obtain ⟨N, hN⟩ : ∃ N, N = l.first + l.recs.length := ⟨_, rfl⟩
    rw [← hN] at NX hnn
    have HD := Lib.hid hd
    by_cases h1 : t < l.first
    · have e : wcutW l D t = (13, l, D) := by unfold wcutW; rw [if_neg (by rw [hd]; simp), if_pos h1]
      rw [e]
      have hI : (t : Int) < (l.first : Int) := by omega
      have HF := Lib.hid (DONE 13 w (Below.refl _ _))
      clear h hcnt hd e hch hfine hmk hne DONE
      go_enter Tryz.func17, Tryz.ntmps17
      go_wp2_with (go_at_call 27; refine AL.out.mono ?_)
      first | rintro e w1 rfl rfl | rintro e w1 ⟨rfl, rfl⟩
      clear AL
      go_wp2_with fail
      go_ret
      exact HF.out
    · have hI1 : ¬ (t : Int) < (l.first : Int) := by omega
      by_cases h2 : l.next < t
      · have e : wcutW l D t = (12, l, D) := by unfold wcutW; rw [if_neg (by rw [hd]; simp), if_neg h1, if_pos h2]
        rw [e]
        have hI : (N : Int) < (t : Int) := by omega
        have HF : Hid (∀ n, LDone B S F w p g (.int .i64 12) l D (.returned (.int .i64 12)) (w.drewN n)) := Lib.hid (fun n => DONE 12 _ (belowDrewN (Below.refl _ _) n))
        clear h hcnt hd e hch hfine hmk hne DONE hN hnn h2 hnx
        go_enter Tryz.func17, Tryz.ntmps17
        go_wp2_with (first | (go_at_call 27; refine AL.out.mono ?_; first | rintro e w1 rfl rfl | rintro e w1 ⟨rfl, rfl⟩) | (go_at_call 14; refine (NX.out _ (Below.refl _ _)).mono ?_))
        first | rintro e w2 rfl n2 rfl | rintro e w2 ⟨rfl, n2, rfl⟩
        clear AL NX
        go_wp2_with fail
        go_ret
        exact HF.out _
      · have hI2 : ¬ (N : Int) < (t : Int) := by omega
        obtain ⟨q, hq⟩ : ∃ q, q = syncW l D := ⟨_, rfl⟩
        have SY : Hid (∀ v, Below w.heap.size w v → Calls Tryz.prog 11 #[.pointer (some ⟨p, 0, none⟩)] v (LKeep B S F v p g Z Y SA sc RA rc (.int .i64 q.1) q.2.1 q.2.2)) := Lib.hid (fun v hv => by
          have h1 := walSync (h.below hv) (Nat.le_trans hB hv.size) (by omega)
          rw [← hq] at h1; exact h1)
        have HX := Lib.hid h
        by_cases h3 : t = l.next
        · have e : wcutW l D t = q := by unfold wcutW; rw [if_neg (by rw [hd]; simp), if_neg h1, if_neg h2, if_pos h3, hq]
          rw [e]
          have hI3 : t = N := by omega
          have hI3b : ((t : Int) == (N : Int)) = true := by rw [beq_iff_eq]; omega
          clear h hcnt hd e hch hfine hmk hne DONE h3 hN hnn hI3 h2 hnx hq
          go_enter Tryz.func17, Tryz.ntmps17
          go_wp2_with (first | (go_at_call 27; refine AL.out.mono ?_; first | rintro e w1 rfl rfl | rintro e w1 ⟨rfl, rfl⟩) | (go_at_call 14; refine (NX.out _ (Below.refl _ _)).mono ?_))
          first | rintro e w2 rfl n2 rfl | rintro e w2 ⟨rfl, n2, rfl⟩
          have HB2 := Lib.hid (belowDrewN (Below.refl w.heap.size w) n2)
          generalize w.drewN n2 = w2 at *
          go_wp2_with (go_at_call 14; refine (NX.out _ HB2.out).mono ?_)
          first | rintro e w3 rfl n3 rfl | rintro e w3 ⟨rfl, n3, rfl⟩
          have HB3 := Lib.hid (belowDrewN HB2.out n3)
          generalize w2.drewN n3 = w3 at *
          clear AL NX HB2
          go_wp2_with (go_at_call 11; refine (SY.out _ HB3.out).mono ?_)
          rintro e w4 ⟨rfl, S3, hx3, hs3, hm3⟩
          have HF : Hid (LDone B S F w p g (.int .i64 q.1) q.2.1 q.2.2 (.returned (.int .i64 q.1)) w4) := Lib.hid ⟨rfl, S3, F, ⟨_, _, _, _, _, _, hx3⟩, fun b hb => (hs3 b hb).imp id (fun h => Nat.le_trans HB3.out.size h), fun b hb => .inl hb, (Mods.of_below HB3.out).trans hm3 (fun i hi => .inl (hi.imp id (fun e => by rw [e]; exact HX.out.fp)))⟩
          clear hx3 hs3 hm3 SY HB3 HX
          go_wp2_with fail
          go_ret
          exact HF.out
        · have hI3 : ((t : Int) == (N : Int)) = false := by rw [beq_eq_false_iff_ne]; omega
          have hr0 : wcutW l D t = if q.1 ≠ 0 then q else wcutA q.2.1 q.2.2 t := by
            unfold wcutW
            rw [if_neg (by rw [hd]; simp), if_neg h1, if_neg h2, if_neg h3, ← hq]
          obtain ⟨r, hr⟩ : ∃ r, r = wcutW l D t := ⟨_, rfl⟩
          rw [← hr] at hr0 ⊢
          have HR := Lib.hid hr0
          have HQ := Lib.hid hq
          have HCH := Lib.hid (And.intro hch (And.intro hne (And.intro hfine hmk)))
          have htn : l.first ≤ t ∧ t < N := by omega
          have HNN := Lib.hid (And.intro hnn hN)
          clear h hd hch hfine hmk hne DONE h3 hr hr0 hq h1 h2 hN hnn hnx
          go_enter Tryz.func17, Tryz.ntmps17
          go_wp2_with (first | (go_at_call 27; refine AL.out.mono ?_; first | rintro e w1 rfl rfl | rintro e w1 ⟨rfl, rfl⟩) | (go_at_call 14; refine (NX.out _ (Below.refl _ _)).mono ?_))
          first | rintro e w2 rfl n2 rfl | rintro e w2 ⟨rfl, n2, rfl⟩
          have HB2 := Lib.hid (belowDrewN (Below.refl w.heap.size w) n2)
          generalize w.drewN n2 = w2 at *
          go_wp2_with (go_at_call 14; refine (NX.out _ HB2.out).mono ?_)
          first | rintro e w3 rfl n3 rfl | rintro e w3 ⟨rfl, n3, rfl⟩
          have HB3 := Lib.hid (belowDrewN HB2.out n3)
          generalize w2.drewN n3 = w3 at *
          clear AL NX HB2
          go_wp2_with (go_at_call 11; refine (SY.out _ HB3.out).mono ?_)
          rintro e w4 ⟨rfl, S4, hx4, hs4, hm4⟩
          have HS4 : Hid (∀ b, S4 b → S b ∨ w.heap.size ≤ b) := Lib.hid (fun b hb => (hs4 b hb).imp id (fun h => Nat.le_trans HB3.out.size h))
          have HM4 : Hid (Mods (fun b => S b ∨ F b) w w4) := Lib.hid ((Mods.of_below HB3.out).trans hm4 (fun i hi => .inl (hi.imp id (fun e => by rw [e]; exact HX.out.fp))))
          have HX4 := Lib.hid hx4
          have HP := Lib.hid HX.out.fp
          clear hx4 hs4 hm4 SY HB3 HX y4
          by_cases hq0 : q.1 = 0
          · have hqb : (q.1 == 0) = true := by simpa using hq0
            have hok := syncW_ok (D := D) HD.out (by rw [← HQ.out]; exact hq0)
            rw [← HQ.out] at hok
            have HX5 := Lib.hid (HX4.out.same hok.1)
            have HC5 : Hid (q.2.2.cnt + l.segs.length ≤ 500000) := Lib.hid (by have := hok.2; omega)
            have HR5 : Hid (r = wcutA l q.2.2 t) := Lib.hid (by
              have h := HR.out
              rw [if_neg (by rw [hq0]; simp), hok.1] at h
              exact h)
            rw [hq0]
            clear hok HX4 HR HQ hqb hq0 hcnt
            generalize q.2.2 = D5 at *
            obtain ⟨hch, hne, hfine, hmk⟩ := HCH.out
            obtain ⟨sb, rfl⟩ : ∃ sb, SA = some ⟨sb, 0, none⟩ := by
              rcases HX5.out.lb.sv.form with ⟨_, _, h⟩ | ⟨sb, h, _⟩
              · exact absurd (by have := HX5.out.zs; rw [List.map_eq_nil_iff.1 h] at this; exact this.symm) hne
              · exact ⟨sb, h⟩
            obtain ⟨n, hn⟩ : ∃ n, n = l.segs.length := ⟨_, rfl⟩
            have hn0 : 0 < n := by
              rw [hn]
              exact List.length_pos_iff.2 hne
            have hnb : n ≤ 1000000 := by rw [hn]; exact hfine.sl
            have hzn : Z.length = n := by rw [HX5.out.lens.1, hn]
            have c2 : w4.cell? ⟨p, 2, none⟩ = some (.slice (some ⟨sb, 0, none⟩) n sc) := by rw [hn]; exact HX5.out.blk.cell 2 rfl
            have hwn : IntKind.i64.wrap ((n : Int) - 1) = ((n - 1 : Nat) : Int) := by rw [IntWalk.i64_in _ (by omega)]; omega
            have HN2 := Lib.hid (And.intro hn hzn)
            unfold Lg.chain at hch
            have HSG := Lib.hid hch
            clear hn hch hne hfine hmk
            go_wp2_with fail
            go_loopw [7] (fun s7 wr => ∃ k, k < n ∧ s7 = .int .i64 (k : Int) ∧ wr = w4 ∧ Hid (downTo t l.segs (n - 1) = downTo t l.segs k) ∧ Hid (∀ s, l.segs[k + 1]? = some s → t < s.first)) (fun s7 _ => (intOf s7).toNat)
            case atStart => exact ⟨n - 1, by omega, by first | rfl | (rw [hwn]), by first | rfl | trivial, Lib.hid rfl, Lib.hid (fun s hs => by
              rw [List.getElem?_eq_none (by rw [← HN2.out.1]; omega)] at hs; cases hs)⟩
            case round =>
              obtain ⟨k, hk, rfl, rfl, HDT, HLT⟩ := hrel
              obtain ⟨⟨s, z⟩, hsz⟩ : ∃ sz, Z[k]? = some sz := ⟨_, List.getElem?_eq_getElem (by omega)⟩
              have hls : l.segs[k]? = some s := by rw [← HX5.out.zs, List.getElem?_map, hsz]; rfl
              have hk0 : (0 : Int) ≤ (k : Int) := by omega
              have hkn : (k : Int) < (n : Int) := by omega
              have y2 : wr.cell? ⟨sb, k, none⟩ = some (.pointer (some ⟨z.q, 0, none⟩)) := HX5.out.lb.sv.get (j := k) (by rw [List.getElem?_map, hsz]; rfl)
              have hmem : (s, z) ∈ Z := List.mem_of_getElem? hsz
              have y1 : wr.cell? ⟨z.q, 1, none⟩ = some (.int .u64 (s.first : Int)) := (HX5.out.lb.sg (s, z) hmem).blk.cell 1 rfl
              obtain ⟨g1, g2, g3, g4, g5, g6⟩ := HSG.out.get hls
              by_cases htl : t < s.first
              · have htI : (t : Int) < (s.first : Int) := by omega
                have hkp : 0 < k := by
                  rcases Nat.eq_zero_or_pos k with e | e
                  · have := g6 e; omega
                  · exact e
                obtain ⟨k, rfl⟩ : ∃ j, k = j + 1 := ⟨k - 1, by omega⟩
                have hw1 : IntKind.i64.wrap (((k + 1 : Nat) : Int) - 1) = (k : Int) := by rw [IntWalk.i64_in _ (by omega)]; omega
                have HDT2 : Hid (downTo t l.segs (n - 1) = downTo t l.segs k) := Lib.hid (by
                  rw [HDT.out]
                  conv => lhs; unfold downTo
                  rw [hls]
                  simp only [Option.map_some, Option.getD_some]
                  rw [if_pos htl])
                have HLT2 : Hid (∀ s, l.segs[k + 1]? = some s → t < s.first) := Lib.hid (fun s' hs' => by rw [hls] at hs'; injection hs' with hs'; rw [← hs']; exact htl)
                clear HDT HLT g1 g2 g3 g4 g5 g6 hls hmem hsz
                go_wp2_with fail
                go_roundw
                case rel => exact ⟨k, by omega, by go_num, by first | rfl | trivial, HDT2, HLT2⟩
                case measure => simp [intOf] <;> omega
              · have htI : ¬ (t : Int) < (s.first : Int) := by omega
                have hK : downTo t l.segs (n - 1) = k := by
                  rw [HDT.out]
                  cases k with
                  | zero => rfl
                  | succ k =>
                    unfold downTo
                    rw [hls]
                    simp only [Option.map_some, Option.getD_some]
                    rw [if_neg htl]
                have HRB : Hid (r = wcutB l D5 t k s) := Lib.hid (by
                  rw [HR5.out]
                  unfold wcutA
                  rw [← HN2.out.1, hK, hls])
                obtain ⟨a, had⟩ : ∃ a, a = t - s.first := ⟨_, rfl⟩
                have ham : a + 1 < s.marks.length := by
                  have hN := HNN.out.1
                  by_cases hkl : k + 1 = l.segs.length
                  · have := g4 hkl; omega
                  · obtain ⟨s2, hs2⟩ : ∃ s2, l.segs[k + 1]? = some s2 := ⟨_, List.getElem?_eq_getElem (by have := HN2.out.1; omega)⟩
                    have h1 := HLT.out s2 hs2
                    have h2 := g5 s2 hs2
                    omega
                have hmk := HCH.out.2.2.1.nm s (List.mem_of_getElem? hls)
                have hwa : IntKind.u64.wrap ((t : Int) - (s.first : Int)) = (a : Int) := by rw [IntWalk.u64_in _ (by omega)]; omega
                have hwa2 : IntKind.i64.wrap (a : Int) = (a : Int) := IntWalk.i64_in _ (by omega)
                have HAD : Hid (a = t - s.first ∧ a + 1 < s.marks.length) := Lib.hid ⟨had, ham⟩
                have hamb : a ≤ 1000000 := by omega
                have HLS := Lib.hid hls
                have HSZ := Lib.hid hsz
                have HME := Lib.hid hmem
                clear HDT HLT HR5 g1 g2 g3 g4 g5 g6 hls hmem hsz hK had htl ham
                go_upto_region 18 with fail
                go_cut [9, 84] (fun s9 s84 wx => s9 = .int .i64 (a : Int) ∧ s84 = .bool (decide (0 < a ∨ k = 0)) ∧ wx = wr)
                case first =>
                  by_cases ha : 0 < a
                  · have haI : (0 : Int) < (a : Int) := by omega
                    have HH := Lib.hid (show decide (0 < a ∨ k = 0) = true by simpa using Or.inl ha)
                    clear ha
                    go_wp2_with fail
                    go_meet
                    exact ⟨rfl, by rw [HH.out]; first | done | rfl, by first | rfl | trivial⟩
                  · by_cases hk1 : k = 0
                    · have hkb : ((k : Int) == 0) = true := by rw [beq_iff_eq]; omega
                      have haI : ¬ (0 : Int) < (a : Int) := by omega
                      have HA0 : Hid ((a : Int) = 0) := Lib.hid (by omega)
                      have HH := Lib.hid (show decide (0 < a ∨ k = 0) = true by simpa using Or.inr hk1)
                      clear hk1 ha
                      go_wp2_with fail
                      go_meet
                      exact ⟨by rw [HA0.out] <;> first | done | rfl, by rw [HH.out]; first | done | rfl, by first | rfl | trivial⟩
                    · have hkb : ((k : Int) == 0) = false := by rw [beq_eq_false_iff_ne]; omega
                      have haI : ¬ (0 : Int) < (a : Int) := by omega
                      have HA0 : Hid ((a : Int) = 0) := Lib.hid (by omega)
                      have HH := Lib.hid (show decide (0 < a ∨ k = 0) = false by simp; omega)
                      clear hk1 ha
                      go_wp2_with fail
                      go_meet
                      exact ⟨by rw [HA0.out] <;> first | done | rfl, by rw [HH.out]; first | done | rfl, by first | rfl | trivial⟩
                case rest =>
                  obtain ⟨rfl, rfl, rfl⟩ := hcut
                  obtain ⟨w5, hw5⟩ : ∃ w5, w5 = wc := ⟨_, rfl⟩
                  subst hw5
                  clear c2 y1 y2 hk0 hkn hwa hwa2 hwn htI
                  have hs5 : w.heap.size ≤ w5.heap.size := HM4.out.size
                  go_upto_if 84 with fail
                  go_cut [7] (fun s7 wx => ∃ (k' : Nat) (lx : Lg) (Dx : DSt) (Zx : List (Sg × Pl)) (S6 : Nat → Prop), k' ≤ n ∧ s7 = .int .i64 (k' : Int) ∧ Hid (LX B S6 F wx p g lx Dx Zx Y (some ⟨sb, 0, none⟩) sc RA rc) ∧ Hid (r = wcutC lx Dx t k') ∧ Hid (∀ b, S6 b → S b ∨ w.heap.size ≤ b) ∧ Hid (Mods (fun b => S b ∨ F b) w wx) ∧ Hid (lx.down = false ∧ lx.first = l.first ∧ lx.recs = l.recs ∧ lx.segs.length = n ∧ Dx.cnt + n ≤ 500001 ∧ ∀ s ∈ lx.segs, s.name.length ≤ 1000))
                  case first =>
                    -- DEV{
                    by_cases hA : 0 < a ∨ k = 0
                    · have HH := Lib.hid (show decide (0 < a ∨ k = 0) = true by simpa using hA)
                      rw [HH.out]
                      obtain ⟨mv, hmv⟩ : ∃ mv, mv = s.marks.getD a 0 := ⟨_, rfl⟩
                      have hmg : s.marks[a]? = some mv := by
                        rw [hmv, List.getD_eq_getElem?_getD, List.getElem?_eq_getElem (by have := HAD.out.2; omega)]
                        rfl
                      have hmb : mv ≤ 1000000000 := HCH.out.2.2.2 s (List.mem_of_getElem? HLS.out) mv (List.mem_of_getElem? hmg)
                      obtain ⟨q1, hq1⟩ : ∃ q1, q1 = cutS D5 s.name mv := ⟨_, rfl⟩
                      have HR6 : Hid (r = if q1.1 ≠ 0 then (q1.1, l.fell q1.1, q1.2) else wcutC { l with segs := l.segs.set k { s with marks := s.marks.take (a + 1) } } q1.2 t (k + 1)) := Lib.hid (by
                        rw [HRB.out]
                        unfold wcutB
                        rw [← HAD.out.1, if_pos hA, ← hmv, show cutS D5 s.name mv = q1 from hq1.symm])
                      have CU : Hid (∀ v, Below w5.heap.size w5 v → Calls Tryz.prog 42 #[.pointer (some ⟨g, 0, none⟩), .string ⟨s.name.toArray⟩, .int .i64 (mv : Int)] v (PDone S4 v g q1.2 (.int .i64 q1.1))) := Lib.hid (fun v hv => by
                        have h := diskCutC s.name (mv : Int) (HX5.out.below hv).lb.di (by have := HC5.out; omega) (by omega) (by omega)
                        rw [Int.toNat_natCast, show changeD D5 ⟨2, s.name, mv, []⟩ (mv : Int) = q1 from hq1.symm] at h
                        exact h)
                      have hq1c : Hid (q1.2.cnt ≤ D5.cnt + 1) := Lib.hid (by rw [hq1]; exact wchange_cnt _ _ _)
                      have haI0 : (0 : Int) ≤ (a : Int) := by omega
                      have haI1 : (a : Int) < (s.marks.length : Int) := by have := HAD.out.2; omega
                      have HMV := Lib.hid hmg
                      have HAA := Lib.hid hA
                      clear hmv hmg hq1 hA HRB HH
                      go_upto_region 19 with fail
                      refine wp_region_planE_gen (by kernel_rfl) [(0, none), (1, none), (2, none), (3, none), (4, none), (5, none), (6, none), (7, none), (8, none), (9, none), (10, none), (11, none), (12, none), (13, none), (14, none), (15, none), (16, some [4, 8, 15]), (17, some [0]), (18, none)] (by kernel_rfl) (by kernel_rfl) (by decide) ?_
                      intro wq hwq
                      have hBq : Below w5.heap.size w5 wq := by rw [hwq]; exact (Below.refl _ _).drew
                      have HXQ := Lib.hid (HX5.out.below hBq)
                      have HMQ : Hid (Mods (fun b => S b ∨ F b) w wq) := Lib.hid (HM4.out.below hBq)
                      have hszq : w5.heap.size ≤ wq.heap.size := hBq.size
                      have CUQ := Lib.hid (CU.out wq hBq)
                      clear hwq hBq HX5 HM4 CU
                      have y0 : wq.cell? ⟨p, 0, none⟩ = some (.pointer (some ⟨g, 0, none⟩)) := HXQ.out.blk.cell 0 rfl
                      have n0 : wq.cell? ⟨z.q, 0, none⟩ = some (.string ⟨s.name.toArray⟩) := (HXQ.out.lb.sg (s, z) HME.out).blk.cell 0 rfl
                      have n2 : wq.cell? ⟨z.q, 2, none⟩ = some (.slice (some ⟨z.m, 0, none⟩) s.marks.length z.c) := (HXQ.out.lb.sg (s, z) HME.out).blk.cell 2 rfl
                      have nm : wq.cell? ⟨z.m, a, none⟩ = some (.int .i64 (mv : Int)) := (HXQ.out.lb.sg (s, z) HME.out).mr.get (j := a) (by rw [List.getElem?_map, HMV.out]; rfl)
                      iterate 4 (refine planE_pure (v := ?_) rfl (by rfl) (fun w' => ?_) ?_; rotate_left; (focus (simp only [List.getElem_toArray, List.getElem_cons_succ, List.getElem_cons_zero]; go_simp; first | with_reducible rfl | (simp (disch := omega) only [if_pos, if_neg, dif_pos, Result.andThen_ok]; try with_reducible rfl) | skip)); try simp only [List.getElem_toArray, List.getElem_cons_succ, List.getElem_cons_zero, Act.put, List.setIfInBounds_toArray, List.set_cons_zero, List.set_cons_succ])
                      refine planE_cells (v := ?_) [(⟨p, 0, none⟩, .pointer (some ⟨g, 0, none⟩))] (by simp; and_intros <;> assumption) rfl (by rfl) (fun w' hw' => ?_) ?_; rotate_left; (focus (simp only [List.forall_mem_cons, List.not_mem_nil, false_imp_iff, implies_true, and_true] at hw'; simp only [List.getElem_toArray, List.getElem_cons_succ, List.getElem_cons_zero]; go_simp; first | with_reducible rfl | (simp (disch := omega) only [if_pos, if_neg, dif_pos, Result.andThen_ok]; try with_reducible rfl) | skip)); try simp only [List.getElem_toArray, List.getElem_cons_succ, List.getElem_cons_zero, Act.put, List.setIfInBounds_toArray, List.set_cons_zero, List.set_cons_succ]
                      iterate 3 (refine planE_pure (v := ?_) rfl (by rfl) (fun w' => ?_) ?_; rotate_left; (focus (simp only [List.getElem_toArray, List.getElem_cons_succ, List.getElem_cons_zero]; go_simp; first | with_reducible rfl | (simp (disch := omega) only [if_pos, if_neg, dif_pos, Result.andThen_ok]; try with_reducible rfl) | skip)); try simp only [List.getElem_toArray, List.getElem_cons_succ, List.getElem_cons_zero, Act.put, List.setIfInBounds_toArray, List.set_cons_zero, List.set_cons_succ])
                      refine planE_cells (v := ?_) [(⟨z.q, 0, none⟩, .string ⟨s.name.toArray⟩)] (by simp; and_intros <;> assumption) rfl (by rfl) (fun w' hw' => ?_) ?_; rotate_left; (focus (simp only [List.forall_mem_cons, List.not_mem_nil, false_imp_iff, implies_true, and_true] at hw'; simp only [List.getElem_toArray, List.getElem_cons_succ, List.getElem_cons_zero]; go_simp; first | with_reducible rfl | (simp (disch := omega) only [if_pos, if_neg, dif_pos, Result.andThen_ok]; try with_reducible rfl) | skip)); try simp only [List.getElem_toArray, List.getElem_cons_succ, List.getElem_cons_zero, Act.put, List.setIfInBounds_toArray, List.set_cons_zero, List.set_cons_succ]
                      iterate 3 (refine planE_pure (v := ?_) rfl (by rfl) (fun w' => ?_) ?_; rotate_left; (focus (simp only [List.getElem_toArray, List.getElem_cons_succ, List.getElem_cons_zero]; go_simp; first | with_reducible rfl | (simp (disch := omega) only [if_pos, if_neg, dif_pos, Result.andThen_ok]; try with_reducible rfl) | skip)); try simp only [List.getElem_toArray, List.getElem_cons_succ, List.getElem_cons_zero, Act.put, List.setIfInBounds_toArray, List.set_cons_zero, List.set_cons_succ])
                      refine planE_cells (v := ?_) [(⟨z.q, 2, none⟩, .slice (some ⟨z.m, 0, none⟩) s.marks.length z.c)] (by simp; and_intros <;> assumption) rfl (by rfl) (fun w' hw' => ?_) ?_; rotate_left; (focus (simp only [List.forall_mem_cons, List.not_mem_nil, false_imp_iff, implies_true, and_true] at hw'; simp only [List.getElem_toArray, List.getElem_cons_succ, List.getElem_cons_zero]; go_simp; first | with_reducible rfl | (simp (disch := omega) only [if_pos, if_neg, dif_pos, Result.andThen_ok]; try with_reducible rfl) | skip)); try simp only [List.getElem_toArray, List.getElem_cons_succ, List.getElem_cons_zero, Act.put, List.setIfInBounds_toArray, List.set_cons_zero, List.set_cons_succ]
                      iterate 2 (refine planE_pure (v := ?_) rfl (by rfl) (fun w' => ?_) ?_; rotate_left; (focus (simp only [List.getElem_toArray, List.getElem_cons_succ, List.getElem_cons_zero]; go_simp; first | with_reducible rfl | (simp (disch := omega) only [if_pos, if_neg, dif_pos, Result.andThen_ok]; try with_reducible rfl) | skip)); try simp only [List.getElem_toArray, List.getElem_cons_succ, List.getElem_cons_zero, Act.put, List.setIfInBounds_toArray, List.set_cons_zero, List.set_cons_succ])
                      refine planE_cells (v := ?_) [(⟨z.m, a, none⟩, .int .i64 (mv : Int))] (by simp; and_intros <;> assumption) rfl (by rfl) (fun w' hw' => ?_) ?_; rotate_left; (focus (simp only [List.forall_mem_cons, List.not_mem_nil, false_imp_iff, implies_true, and_true] at hw'; simp only [List.getElem_toArray, List.getElem_cons_succ, List.getElem_cons_zero]; go_simp; first | with_reducible rfl | (simp (disch := omega) only [if_pos, if_neg, dif_pos, Result.andThen_ok]; try with_reducible rfl) | skip)); try simp only [List.getElem_toArray, List.getElem_cons_succ, List.getElem_cons_zero, Act.put, List.setIfInBounds_toArray, List.set_cons_zero, List.set_cons_succ]
                      refine planE_eff rfl (by rfl) (fun K hK => ?_)
                      go_simp
                      refine CUQ.out.mono ?_
                      rintro e w6 ⟨rfl, hd6, m6⟩
                      have HX6 := Lib.hid (HXQ.out.disk (Nat.le_trans hB (Nat.le_trans hs5 hszq)) hd6 m6)
                      have HM6 : Hid (Mods (fun b => S b ∨ F b) w w6) := Lib.hid (HMQ.out.trans m6 (fun i hi => (HS4.out i hi).imp .inl id))
                      have HS6 : Hid (∀ b, Sx S4 wq w6 b → S b ∨ w.heap.size ≤ b) := Lib.hid (fun b hb => hb.elim (HS4.out b) (fun h => .inr (Nat.le_trans hs5 (Nat.le_trans hszq h.1))))
                      have DD := Lib.hid (walDid HX6.out.blk l.down rfl q1.1)
                      clear y0 n0 n2 nm CUQ hd6 m6 HXQ HMQ
                      have n2 : w6.cell? ⟨z.q, 2, none⟩ = some (.slice (some ⟨z.m, 0, none⟩) s.marks.length z.c) := (HX6.out.lb.sg (s, z) HME.out).blk.cell 2 rfl
                      refine hK _ _ (by simp [owed, left] <;> (and_intros <;> first | trivial | assumption)) ?_
                      clear hK K
                      try simp only [List.getElem_toArray, List.getElem_cons_succ, List.getElem_cons_zero, Act.put, List.setIfInBounds_toArray, List.set_cons_zero, List.set_cons_succ]
                      refine planE_eff rfl (by rfl) (fun K hK => ?_)
                      go_simp
                      refine DD.out.mono ?_
                      rintro e w7 ⟨rfl, rfl⟩
                      have HX7 : Hid (LX B (Sx S4 wq w6) F (w6.setCell ⟨p, 5, none⟩ (.bool (l.down || decide (q1.1 = 11)))) p g (l.fell q1.1) q1.2 Z Y (some ⟨sb, 0, none⟩) sc RA rc) := Lib.hid (HX6.out.set 5 _ rfl rfl rfl)
                      have HM7 : Hid (Mods (fun b => S b ∨ F b) w (w6.setCell ⟨p, 5, none⟩ (.bool (l.down || decide (q1.1 = 11))))) := Lib.hid (HM6.out.trans ((Mods.refl (· = p) w6).setCell ⟨p, 5, none⟩ (.inl rfl) (.bool (l.down || decide (q1.1 = 11)))) (fun i hi => .inl (.inr (by rw [hi]; exact HP.out))))
                      clear HX6 HM6 DD n2
                      have n2 : (w6.setCell ⟨p, 5, none⟩ (.bool (l.down || decide (q1.1 = 11)))).cell? ⟨z.q, 2, none⟩ = some (.slice (some ⟨z.m, 0, none⟩) s.marks.length z.c) := (HX7.out.lb.sg (s, z) HME.out).blk.cell 2 rfl
                      generalize w6.setCell ⟨p, 5, none⟩ (.bool (l.down || decide (q1.1 = 11))) = w7 at *
                      refine hK _ _ (by simp [owed, left] <;> (and_intros <;> first | trivial | assumption)) ?_
                      clear hK K
                      try simp only [List.getElem_toArray, List.getElem_cons_succ, List.getElem_cons_zero, Act.put, List.setIfInBounds_toArray, List.set_cons_zero, List.set_cons_succ]
                      iterate 1 (refine planE_pure (v := ?_) rfl (by rfl) (fun w' => ?_) ?_; rotate_left; (focus (simp only [List.getElem_toArray, List.getElem_cons_succ, List.getElem_cons_zero]; go_simp; first | with_reducible rfl | (simp (disch := omega) only [if_pos, if_neg, dif_pos, Result.andThen_ok]; try with_reducible rfl) | skip)); try simp only [List.getElem_toArray, List.getElem_cons_succ, List.getElem_cons_zero, Act.put, List.setIfInBounds_toArray, List.set_cons_zero, List.set_cons_succ])
                      refine planE_end ?_
                      by_cases hq0 : q1.1 = 0
                      · have hqb : (q1.1 == 0) = true := by simpa using hq0
                        have HX8 := Lib.hid (HX7.out.same (l' := l) (by rw [hq0]; exact fell_ok HD.out))
                        have HR7 : Hid (r = wcutC { l with segs := l.segs.set k { s with marks := s.marks.take (a + 1) } } q1.2 t (k + 1)) := Lib.hid (by have h := HR6.out; rw [if_neg (by rw [hq0]; simp)] at h; exact h)
                        rw [hq0]
                        clear HX7 HR6 hqb hq0 haI0 haI1
                        obtain ⟨Z1, Z2, hZd, hZ1⟩ : ∃ Z1 Z2, Z = Z1 ++ (s, z) :: Z2 ∧ Z1.length = k := by
                          have hkz : k < Z.length := (List.getElem?_eq_some_iff.1 HSZ.out).1
                          have he : Z[k] = (s, z) := (List.getElem?_eq_some_iff.1 HSZ.out).2
                          refine ⟨Z.take k, Z.drop (k + 1), ?_, by rw [List.length_take]; omega⟩
                          rw [← he, ← List.drop_eq_getElem_cons hkz, List.take_append_drop]
                        have hcapm : s.marks.length ≤ z.c ∧ z.c ≤ 9223372036854775807 := by
                          have h := (HX8.out.lb.sg (s, z) HME.out).mr.cap
                          rw [List.length_map] at h
                          exact h
                        clear n2
                        have n2 : w7.cell? ⟨z.q, 2, none⟩ = some (.slice (some ⟨z.m, 0, none⟩) s.marks.length z.c) := (HX8.out.lb.sg (s, z) HME.out).blk.cell 2 rfl
                        have f2 : w7.frozen? ⟨z.q, 2, none⟩ = false := (HX8.out.lb.sg (s, z) HME.out).blk.free 2
                        have HX9 : Hid (LX B (Sx S4 wq w6) F (w7.setCell ⟨z.q, 2, none⟩ (.slice (some ⟨z.m, 0, none⟩) (a + 1) z.c)) p g { l with segs := l.segs.set k { s with marks := s.marks.take (a + 1) } } q1.2 (Z1 ++ ({ s with marks := s.marks.take (a + 1) }, z) :: Z2) Y (some ⟨sb, 0, none⟩) sc RA rc) := Lib.hid (by
                          have h := HX8.out
                          have hzs := h.zs
                          rw [hZd] at h hzs
                          have hc := h.cutMarks (a + 1) (by omega) (n := a + 1) (by rw [List.length_take]; have := HAD.out.2; omega)
                          have e : l.segs.set k { s with marks := s.marks.take (a + 1) } = Z1.map Prod.fst ++ { s with marks := s.marks.take (a + 1) } :: Z2.map Prod.fst := by
                            rw [← hzs, List.map_append, List.map_cons, List.set_append_right _ _ (by rw [List.length_map]; omega), List.length_map, hZ1, Nat.sub_self]
                            rfl
                          rw [e]
                          exact hc)
                        have HM9 : Hid (Mods (fun b => S b ∨ F b) w (w7.setCell ⟨z.q, 2, none⟩ (.slice (some ⟨z.m, 0, none⟩) (a + 1) z.c))) := Lib.hid (HM7.out.trans ((Mods.refl (· = z.q) w7).setCell ⟨z.q, 2, none⟩ (.inl rfl) (.slice (some ⟨z.m, 0, none⟩) (a + 1) z.c)) (fun i hi => .inl (.inr (by rw [hi]; exact (HX8.out.lb.fq (s, z) HME.out).1))))
                        have hi0 : (0 : Int) ≤ ((a + 1 : Nat) : Int) := by omega
                        have hi1 : ((a + 1 : Nat) : Int) ≤ (z.c : Int) := by have := HAD.out.2; omega
                        have hwA : IntKind.i64.wrap ((a : Int) + 1) = ((a + 1 : Nat) : Int) := by rw [IntWalk.i64_in _ (by omega)]; omega
                        have hwK : IntKind.i64.wrap ((k : Int) + 1) = ((k + 1 : Nat) : Int) := by rw [IntWalk.i64_in _ (by omega)]; omega
                        have HRE1 : Hid ((l.segs.set k { s with marks := s.marks.take (a + 1) }).length = n ∧ q1.2.cnt + n ≤ 500001 ∧ ∀ s' ∈ l.segs.set k { s with marks := s.marks.take (a + 1) }, s'.name.length ≤ 1000) := Lib.hid ⟨by rw [List.length_set]; exact HN2.out.1.symm, by have := hq1c.out; have := HC5.out; have := HN2.out.1; omega, fun s' hs' => by
                          rcases List.mem_or_eq_of_mem_set hs' with h | h
                          · exact (HCH.out.2.2.1.nm s' h).1
                          · rw [h]; exact hmk.1⟩
                        clear HX8 HM7 hZd hZ1 hcapm
                        go_upto_region 22 with fail
                        go_wp2_with fail
                        go_meet
                        exact ⟨k + 1, _, _, _, _, by omega, by first | rfl | go_num, HX9, HR7, HS6, HM9, Lib.hid ⟨HD.out, rfl, rfl, HRE1.out.1, HRE1.out.2.1, HRE1.out.2.2⟩⟩
                      · have hqb : (q1.1 == 0) = false := by simpa using hq0
                        have HF : Hid (LDone B S F w p g (.int .i64 r.1) r.2.1 r.2.2 (.returned (.int .i64 q1.1)) w7) := Lib.hid (by
                          rw [HR6.out, if_pos hq0]
                          exact ⟨rfl, _, F, ⟨_, _, _, _, _, _, HX7.out⟩, HS6.out, fun b hb => .inl hb, HM7.out⟩)
                        clear HX7 HM7 HS6 HR6 hq0
                        go_wp2_with fail
                        go_ret
                        exact HF.out
                    · have HH := Lib.hid (show decide (0 < a ∨ k = 0) = false by simpa using hA)
                      rw [HH.out]
                      obtain ⟨q1, hq1⟩ : ∃ q1, q1 = rmD D5 s.name := ⟨_, rfl⟩
                      have HR6 : Hid (r = if q1.1 ≠ 0 then (q1.1, l.fell q1.1, q1.2) else wcutC l q1.2 t k) := Lib.hid (by
                        rw [HRB.out]
                        unfold wcutB
                        rw [← HAD.out.1, if_neg hA, ← hq1])
                      have CU : Hid (∀ v, Below w5.heap.size w5 v → Calls Tryz.prog 43 #[.pointer (some ⟨g, 0, none⟩), .string ⟨s.name.toArray⟩] v (PDone S4 v g q1.2 (.int .i64 q1.1))) := Lib.hid (fun v hv => by
                        have h := diskRemoveC s.name (HX5.out.below hv).lb.di (by have := HC5.out; omega) (by omega)
                        rw [show changeD D5 ⟨3, s.name, 0, []⟩ 0 = q1 from hq1.symm] at h
                        exact h)
                      have hq1c : Hid (q1.2.cnt ≤ D5.cnt + 1) := Lib.hid (by rw [hq1]; unfold rmD; exact wchange_cnt _ _ _)
                      clear hq1 hA HRB HH
                      go_upto_region 24 with fail
                      refine wp_region_planE_gen (by kernel_rfl) [(0, none), (1, none), (2, none), (3, none), (4, none), (5, none), (6, none), (7, none), (8, none), (9, some [4, 8]), (10, some [0]), (11, none)] (by kernel_rfl) (by kernel_rfl) (by decide) ?_
                      intro wq hwq
                      have hBq : Below w5.heap.size w5 wq := by rw [hwq]; exact (Below.refl _ _).drew
                      have HXQ := Lib.hid (HX5.out.below hBq)
                      have HMQ : Hid (Mods (fun b => S b ∨ F b) w wq) := Lib.hid (HM4.out.below hBq)
                      have hszq : w5.heap.size ≤ wq.heap.size := hBq.size
                      have CUQ := Lib.hid (CU.out wq hBq)
                      clear hwq hBq HX5 HM4 CU
                      have y0 : wq.cell? ⟨p, 0, none⟩ = some (.pointer (some ⟨g, 0, none⟩)) := HXQ.out.blk.cell 0 rfl
                      have n0 : wq.cell? ⟨z.q, 0, none⟩ = some (.string ⟨s.name.toArray⟩) := (HXQ.out.lb.sg (s, z) HME.out).blk.cell 0 rfl
                      iterate 4 (refine planE_pure (v := ?_) rfl (by rfl) (fun w' => ?_) ?_; rotate_left; (focus (simp only [List.getElem_toArray, List.getElem_cons_succ, List.getElem_cons_zero]; go_simp; first | with_reducible rfl | (simp (disch := omega) only [if_pos, if_neg, dif_pos, Result.andThen_ok]; try with_reducible rfl) | skip)); try simp only [List.getElem_toArray, List.getElem_cons_succ, List.getElem_cons_zero, Act.put, List.setIfInBounds_toArray, List.set_cons_zero, List.set_cons_succ])
                      refine planE_cells (v := ?_) [(⟨p, 0, none⟩, .pointer (some ⟨g, 0, none⟩))] (by simp; and_intros <;> assumption) rfl (by rfl) (fun w' hw' => ?_) ?_; rotate_left; (focus (simp only [List.forall_mem_cons, List.not_mem_nil, false_imp_iff, implies_true, and_true] at hw'; simp only [List.getElem_toArray, List.getElem_cons_succ, List.getElem_cons_zero]; go_simp; first | with_reducible rfl | (simp (disch := omega) only [if_pos, if_neg, dif_pos, Result.andThen_ok]; try with_reducible rfl) | skip)); try simp only [List.getElem_toArray, List.getElem_cons_succ, List.getElem_cons_zero, Act.put, List.setIfInBounds_toArray, List.set_cons_zero, List.set_cons_succ]
                      iterate 3 (refine planE_pure (v := ?_) rfl (by rfl) (fun w' => ?_) ?_; rotate_left; (focus (simp only [List.getElem_toArray, List.getElem_cons_succ, List.getElem_cons_zero]; go_simp; first | with_reducible rfl | (simp (disch := omega) only [if_pos, if_neg, dif_pos, Result.andThen_ok]; try with_reducible rfl) | skip)); try simp only [List.getElem_toArray, List.getElem_cons_succ, List.getElem_cons_zero, Act.put, List.setIfInBounds_toArray, List.set_cons_zero, List.set_cons_succ])
                      refine planE_cells (v := ?_) [(⟨z.q, 0, none⟩, .string ⟨s.name.toArray⟩)] (by simp; and_intros <;> assumption) rfl (by rfl) (fun w' hw' => ?_) ?_; rotate_left; (focus (simp only [List.forall_mem_cons, List.not_mem_nil, false_imp_iff, implies_true, and_true] at hw'; simp only [List.getElem_toArray, List.getElem_cons_succ, List.getElem_cons_zero]; go_simp; first | with_reducible rfl | (simp (disch := omega) only [if_pos, if_neg, dif_pos, Result.andThen_ok]; try with_reducible rfl) | skip)); try simp only [List.getElem_toArray, List.getElem_cons_succ, List.getElem_cons_zero, Act.put, List.setIfInBounds_toArray, List.set_cons_zero, List.set_cons_succ]
                      refine planE_eff rfl (by rfl) (fun K hK => ?_)
                      go_simp
                      refine CUQ.out.mono ?_
                      rintro e w6 ⟨rfl, hd6, m6⟩
                      have HX6 := Lib.hid (HXQ.out.disk (Nat.le_trans hB (Nat.le_trans hs5 hszq)) hd6 m6)
                      have HM6 : Hid (Mods (fun b => S b ∨ F b) w w6) := Lib.hid (HMQ.out.trans m6 (fun i hi => (HS4.out i hi).imp .inl id))
                      have HS6 : Hid (∀ b, Sx S4 wq w6 b → S b ∨ w.heap.size ≤ b) := Lib.hid (fun b hb => hb.elim (HS4.out b) (fun h => .inr (Nat.le_trans hs5 (Nat.le_trans hszq h.1))))
                      have DD := Lib.hid (walDid HX6.out.blk l.down rfl q1.1)
                      clear y0 n0 CUQ hd6 m6 HXQ HMQ
                      refine hK _ _ (by simp [owed, left] <;> (and_intros <;> first | trivial | assumption)) ?_
                      clear hK K
                      try simp only [List.getElem_toArray, List.getElem_cons_succ, List.getElem_cons_zero, Act.put, List.setIfInBounds_toArray, List.set_cons_zero, List.set_cons_succ]
                      refine planE_eff rfl (by rfl) (fun K hK => ?_)
                      go_simp
                      refine DD.out.mono ?_
                      rintro e w7 ⟨rfl, rfl⟩
                      have HX7 : Hid (LX B (Sx S4 wq w6) F (w6.setCell ⟨p, 5, none⟩ (.bool (l.down || decide (q1.1 = 11)))) p g (l.fell q1.1) q1.2 Z Y (some ⟨sb, 0, none⟩) sc RA rc) := Lib.hid (HX6.out.set 5 _ rfl rfl rfl)
                      have HM7 : Hid (Mods (fun b => S b ∨ F b) w (w6.setCell ⟨p, 5, none⟩ (.bool (l.down || decide (q1.1 = 11))))) := Lib.hid (HM6.out.trans ((Mods.refl (· = p) w6).setCell ⟨p, 5, none⟩ (.inl rfl) (.bool (l.down || decide (q1.1 = 11)))) (fun i hi => .inl (.inr (by rw [hi]; exact HP.out))))
                      clear HX6 HM6 DD
                      generalize w6.setCell ⟨p, 5, none⟩ (.bool (l.down || decide (q1.1 = 11))) = w7 at *
                      refine hK _ _ (by simp [owed, left] <;> (and_intros <;> first | trivial | assumption)) ?_
                      clear hK K
                      try simp only [List.getElem_toArray, List.getElem_cons_succ, List.getElem_cons_zero, Act.put, List.setIfInBounds_toArray, List.set_cons_zero, List.set_cons_succ]
                      iterate 1 (refine planE_pure (v := ?_) rfl (by rfl) (fun w' => ?_) ?_; rotate_left; (focus (simp only [List.getElem_toArray, List.getElem_cons_succ, List.getElem_cons_zero]; go_simp; first | with_reducible rfl | (simp (disch := omega) only [if_pos, if_neg, dif_pos, Result.andThen_ok]; try with_reducible rfl) | skip)); try simp only [List.getElem_toArray, List.getElem_cons_succ, List.getElem_cons_zero, Act.put, List.setIfInBounds_toArray, List.set_cons_zero, List.set_cons_succ])
                      refine planE_end ?_
                      by_cases hq0 : q1.1 = 0
                      · have hqb : (q1.1 == 0) = true := by simpa using hq0
                        have HX8 := Lib.hid (HX7.out.same (l' := l) (by rw [hq0]; exact fell_ok HD.out))
                        have HR7 : Hid (r = wcutC l q1.2 t k) := Lib.hid (by have h := HR6.out; rw [if_neg (by rw [hq0]; simp)] at h; exact h)
                        rw [hq0]
                        have HRE1 : Hid (l.segs.length = n ∧ q1.2.cnt + n ≤ 500001 ∧ ∀ s' ∈ l.segs, s'.name.length ≤ 1000) := Lib.hid ⟨HN2.out.1.symm, by have := hq1c.out; have := HC5.out; have := HN2.out.1; omega, fun s' hs' => (HCH.out.2.2.1.nm s' hs').1⟩
                        clear HX7 HR6 hqb hq0
                        go_wp2_with fail
                        go_meet
                        exact ⟨k, _, _, _, _, by omega, by first | rfl | go_num, HX8, HR7, HS6, HM7, Lib.hid ⟨HD.out, rfl, rfl, HRE1.out.1, HRE1.out.2.1, HRE1.out.2.2⟩⟩
                      · have hqb : (q1.1 == 0) = false := by simpa using hq0
                        have HF : Hid (LDone B S F w p g (.int .i64 r.1) r.2.1 r.2.2 (.returned (.int .i64 q1.1)) w7) := Lib.hid (by
                          rw [HR6.out, if_pos hq0]
                          exact ⟨rfl, _, F, ⟨_, _, _, _, _, _, HX7.out⟩, HS6.out, fun b hb => .inl hb, HM7.out⟩)
                        clear HX7 HM7 HS6 HR6 hq0
                        go_wp2_with fail
                        go_ret
                        exact HF.out
                    -- DEV}
                  case rest =>
                    obtain ⟨k', lx, Dx, Zx, S6, hk', rfl, HXX, HRX, HS6, HM6, HRE⟩ := hcut
                    clear HX5 HM4 HS4 HRB HC5 HSG HLS HSZ HME HAD hmk HD HCH hzn hn0
                    have hs6 : w.heap.size ≤ wc.heap.size := HM6.out.size
                    obtain ⟨hxd, hxf, hxr, hxl, hxc, hxn⟩ := HRE.out
                    obtain ⟨q3, hq3⟩ : ∃ q3, q3 = syncW lx Dx := ⟨_, rfl⟩
                    have SY := walSync HXX.out (Nat.le_trans hB hs6) (by omega)
                    rw [← hq3] at SY
                    have SYH := Lib.hid SY
                    have hr1 : r = if q3.1 ≠ 0 then q3 else removeW ((lx.segs.drop k').map Sg.name) { q3.2.1 with segs := lx.segs.take k', recs := lx.recs.take (t - lx.first) } q3.2.2 := by
                      rw [HRX.out]
                      unfold wcutC
                      rw [← hq3]
                    have HR1 := Lib.hid hr1
                    have hok : q3.1 = 0 → q3.2.1 = lx ∧ q3.2.2.cnt ≤ Dx.cnt := fun h0 => by
                      have := syncW_ok (D := Dx) hxd (by rw [← hq3]; exact h0)
                      rw [← hq3] at this
                      exact this
                    have HOK := Lib.hid hok
                    have HXL := Lib.hid (And.intro hxf (And.intro hxr (And.intro hxl (And.intro hxc hxn))))
                    clear HXX HRX HRE hxd hxf hxr hxl hxc hxn hq3 SY hr1 hok
                    go_wp2_with (go_at_call 11; refine SYH.out.mono ?_)
                    rintro e w7 ⟨rfl, S7, hx7, hs7, hm7⟩
                    have HS7 : Hid (∀ b, S7 b → S b ∨ w.heap.size ≤ b) := Lib.hid (fun b hb => (hs7 b hb).elim (HS6.out b) (fun h => .inr (Nat.le_trans hs6 h)))
                    have HM7 : Hid (Mods (fun b => S b ∨ F b) w w7) := Lib.hid (HM6.out.trans hm7 (fun i hi => by
                      rcases hi with hi | hi
                      · exact (HS6.out i hi).imp .inl id
                      · exact .inl (.inr (by rw [hi]; exact HP.out))))
                    have HX7 := Lib.hid hx7
                    clear hx7 hs7 hm7 SYH HS6 HM6
                    by_cases hq0 : q3.1 = 0
                    · have hqb : (q3.1 == 0) = true := by simpa using hq0
                      have hok := HOK.out hq0
                      have HX8 := Lib.hid (HX7.out.same hok.1)
                      have HR2 : Hid (r = removeW ((lx.segs.drop k').map Sg.name) { lx with segs := lx.segs.take k', recs := lx.recs.take (t - lx.first) } q3.2.2) := Lib.hid (by
                        have h := HR1.out
                        rw [if_neg (by rw [hq0]; simp), hok.1] at h
                        exact h)
                      have HC8 : Hid (q3.2.2.cnt + n ≤ 500001) := Lib.hid (by have := hok.2; have := HXL.out.2.2.2.1; omega)
                      rw [hq0]
                      clear hok HX7 HR1 HOK hqb hq0
                      generalize q3.2.2 = D8 at *
                      obtain ⟨hxf, hxr, hxl, hxc, hxn⟩ := HXL.out
                      have hzl : Zx.length = n := by rw [HX8.out.lens.1, hxl]
                      have HZS := Lib.hid HX8.out.zs
                      have HS7D : Hid ((∀ b, S7 b → b < w7.heap.size) ∧ p < w7.heap.size) := Lib.hid ⟨fun b hb => HX8.out.lb.di.bnd b hb, HX8.out.blk.lt⟩
                      have hcs := HX8.out.lb.sv.cap
                      rw [List.length_map, hzl] at hcs
                      have c2 : w7.cell? ⟨p, 2, none⟩ = some (.slice (some ⟨sb, 0, none⟩) n sc) := by
                        have e : w7.cell? ⟨p, 2, none⟩ = some (.slice (some ⟨sb, 0, none⟩) lx.segs.length sc) := HX8.out.blk.cell 2 rfl
                        rw [hxl] at e; exact e
                      obtain ⟨m, hm⟩ : ∃ m, m = n - k' := ⟨_, rfl⟩
                      have HZL := Lib.hid (And.intro hzl hm)
                      have hkI0 : (0 : Int) ≤ (k' : Int) := by omega
                      have hkI1 : (k' : Int) ≤ (n : Int) := by omega
                      have hmn : Hid (m ≤ n) := Lib.hid (by omega)
                      clear hxf hxr hxl hxc hxn hzl
                      go_upto_region 31 with fail
                      go_cut [142, 143, 144] (fun s142 s143 s144 wx => ∃ X cx, s142 = .slice X m cx ∧ s143 = .int .i64 (m : Int) ∧ s144 = .int .i64 0 ∧ wx = w7 ∧ Hid (RV w7 X ((Zx.drop k').map ptrV)))
                      case first =>
                        have hmI : ((n - k' : Nat) : Int) = (m : Int) := by omega
                        have hmN : n - k' = m := hm.symm
                        by_cases hk : k' < sc
                        · have HRV : Hid (RV w7 (some ⟨sb, k', none⟩) ((Zx.drop k').map ptrV)) := Lib.hid (by
                            have := rv_drop HX8.out.lb.sv.rv k'
                            rw [Nat.zero_add, ← List.map_drop] at this
                            exact this)
                          have hkI : (k' : Int) < (sc : Int) := by omega
                          clear hm hk
                          go_wp2_with fail
                          go_meet
                          exact ⟨_, _, rfl, rfl, rfl, by first | rfl | trivial, HRV⟩
                        · have HRV : Hid (RV w7 (some ⟨sb, 0, none⟩) ((Zx.drop k').map ptrV)) := Lib.hid (by
                            rw [List.drop_eq_nil_of_le (by have := HZL.out.1; omega)]
                            exact ⟨fun h => absurd h (by simp)⟩)
                          have hkI : ¬ (k' : Int) < (sc : Int) := by omega
                          clear hm hk
                          go_wp2_with fail
                          all_goals
                            first
                              | (exfalso; omega)
                              | (go_meet
                                 exact ⟨_, _, rfl, rfl, rfl, by first | rfl | trivial, HRV⟩)
                      case rest =>
                        obtain ⟨X, cx, rfl, rfl, rfl, rfl, HRV⟩ := hcut
                        obtain ⟨NL, hNL⟩ : ∃ NL, NL = (Zx.drop k').map (fun y => y.1.name) := ⟨_, rfl⟩
                        have hnl : NL.length = m := by rw [hNL, List.length_map, List.length_drop, HZL.out.1]; exact HZL.out.2.symm
                        have HNL := Lib.hid hNL
                        have HNM := Lib.hid hnl
                        have hmb : m ≤ 1000000 := by have := hmn.out; omega
                        have hs8 : w.heap.size ≤ wc.heap.size := HM7.out.size
                        clear hNL hnl c2 hkI0 hkI1 hm
                        obtain ⟨w8, hw8⟩ : ∃ w8, w8 = wc := ⟨_, rfl⟩
                        subst hw8
                        go_wp2_with fail
                        go_loopw [13, 144] (fun s13 s144 wr => ∃ (i : Nat) (R : Option Addr) (c : Nat), i ≤ m ∧ s144 = .int .i64 (i : Int) ∧ s13 = .slice R i c ∧ Hid (OV wr w8.heap.size 9 R c ((NL.take i).map encStr)) ∧ Hid (Below w8.heap.size w8 wr)) (fun _ s144 _ => m - (intOf s144).toNat)
                        case atStart => exact ⟨0, none, 0, Nat.zero_le _, rfl, rfl, Lib.hid (OV.nil _ _ _), Lib.hid (Below.refl _ _)⟩
                        case round =>
                          obtain ⟨i, R, c, hi, rfl, rfl, HOV, HBL⟩ := hrel
                          by_cases hlt : i < m
                          · have hki : (i : Int) < (m : Int) := by omega
                            have hki0 : (0 : Int) ≤ (i : Int) := by omega
                            obtain ⟨xb, off, rfl, hbl, hc⟩ := (HRV.out.below HBL.out).cell (j := i) (by rw [List.length_map, List.length_drop, HZL.out.1]; have := HZL.out.2; omega)
                            obtain ⟨yz, hyz⟩ : ∃ yz, (Zx.drop k')[i]? = some yz := ⟨_, List.getElem?_eq_getElem (by rw [List.length_drop, HZL.out.1]; have := HZL.out.2; omega)⟩
                            have hc' : wr.cell? ⟨xb, off + i, none⟩ = some (.pointer (some ⟨yz.2.q, 0, none⟩)) := by
                              rw [hc]
                              congr 1
                              have e : ((Zx.drop k').map ptrV)[i]? = some (ptrV yz) := by rw [List.getElem?_map, hyz]; rfl
                              exact (List.getElem?_eq_some_iff.1 e).2
                            have hyn : NL[i]? = some yz.1.name := by rw [HNL.out, List.getElem?_map, hyz]; rfl
                            have hym : yz ∈ Zx := List.mem_of_mem_drop (List.mem_of_getElem? hyz)
                            have hn0 : wr.cell? ⟨yz.2.q, 0, none⟩ = some (.string ⟨yz.1.name.toArray⟩) := ((HX8.out.lb.sg yz hym).below HBL.out).blk.cell 0 rfl
                            obtain ⟨xs, hxs⟩ : ∃ xs, xs = (NL.take i).map encStr := ⟨_, rfl⟩
                            have hxl : i = xs.length := by rw [hxs, List.length_map, List.length_take, HNM.out]; omega
                            have hHV := HOV.out
                            rw [← hxs] at hHV
                            have HTK : Hid ((NL.take (i + 1)).map encStr = xs ++ [.string ⟨yz.1.name.toArray⟩]) := Lib.hid (by
                              rw [List.take_add_one, hyn, List.map_append, ← hxs]; rfl)
                            have hb9 : Below wr.heap.size wr (wr.alloc (.cells #[.string ⟨yz.1.name.toArray⟩] 9)) := (Below.refl _ _).alloc (Nat.le_refl _) _
                            have HC9 := Lib.hid ((Blk.new wr #[.string ⟨yz.1.name.toArray⟩] 9).cell (j := 0) (v := .string ⟨yz.1.name.toArray⟩) rfl)
                            have HOV2 := Lib.hid (hHV.below hb9)
                            have HBL2 := Lib.hid (HBL.out.trans (hb9.mono HBL.out.size))
                            have hs9 : w8.heap.size ≤ (wr.alloc (.cells #[.string ⟨yz.1.name.toArray⟩] 9)).heap.size := HBL2.out.size
                            obtain ⟨i0, hi0, hz0, hz1, hz2⟩ := info_parts str_info3
                            clear HOV hHV hxs hb9 hc hyz hyn hym HBL
                            subst hxl
                            generalize yz.1.name = nm at *
                            go_wp2_with (at_builtin; go_loud (refine wp_appendK _ rfl (.tmp 148) (.tmp 153) 58 9 rfl Tryz.underlying58 hi0 hz0 hz1 hz2 rfl w8.heap.size R c 1 wr.heap.size xs (.string ⟨nm.toArray⟩) rfl rfl HOV2.out HC9.out rfl (by omega) (by omega) hs9 ?_))
                            intro ys m9 g9 c9 w9 hys hm9 ho9 hk9 hg9 hat9
                            subst hm9
                            have HB9 : Hid (Below w8.heap.size w8 w9) := Lib.hid (Mods.old HBL2.out (Mods.of_grown (S := fun b => w8.heap.size ≤ b) hg9 (fun k e => (HOV2.out.blk_lt k e).1)) hs9 (fun i _ e => e))
                            have HO9 : Hid (OV w9 w8.heap.size 9 (some ⟨g9, 0, none⟩) c9 ((NL.take (xs.length + 1)).map encStr)) := Lib.hid (by rw [HTK.out]; exact ho9)
                            clear hys ho9 hk9 hg9 hat9 HOV2 HBL2 HC9 HTK hi0 hz0 hz1 hz2
                            go_wp2_with fail
                            go_roundw
                            case rel => exact ⟨xs.length + 1, _, _, by omega, by go_num, rfl, HO9, HB9⟩
                            case measure => simp [intOf]; omega
                          · obtain rfl : i = m := by omega
                            obtain ⟨w9, hw9⟩ : ∃ w9, w9 = wr := ⟨_, rfl⟩
                            subst hw9
                            have HX9 := Lib.hid (HX8.out.below HBL.out)
                            have HM9 : Hid (Mods (fun b => S b ∨ F b) w w9) := Lib.hid (HM7.out.below HBL.out)
                            have hs9 : w8.heap.size ≤ w9.heap.size := HBL.out.size
                            obtain ⟨hxf, hxr, hxl, hxc, hxn⟩ := HXL.out
                            obtain ⟨j, hj⟩ : ∃ j, j = t - lx.first := ⟨_, rfl⟩
                            have hNN := HNN.out.2
                            have hjr : j ≤ lx.recs.length := by rw [hj, hxf, hxr]; omega
                            obtain ⟨nr, hnr⟩ : ∃ nr, nr = lx.recs.length := ⟨_, rfl⟩
                            rw [← hnr] at hjr
                            have hcr := HX9.out.lb.rv.cap
                            rw [List.length_map, HX9.out.lens.2, ← hnr] at hcr
                            have hcs2 := HX9.out.lb.sv.cap
                            rw [List.length_map, HZL.out.1] at hcs2
                            have hwj : IntKind.u64.wrap ((t : Int) - (lx.first : Int)) = (j : Int) := by rw [IntWalk.u64_in _ (by omega)]; omega
                            have hb0 : (0 : Int) ≤ (k' : Int) := by omega
                            have hb1 : (k' : Int) ≤ (sc : Int) := by omega
                            have hb2 : (0 : Int) ≤ (j : Int) := by omega
                            have hb3 : (j : Int) ≤ (rc : Int) := by omega
                            have HNR := Lib.hid (And.intro hnr hj)
                            have HHB := Lib.hid (And.intro hjr (And.intro hcr hcs2))
                            clear HX8 HM7 HBL HRV hxf hxr hxl hxc hxn hnr hj hNN hcs
                            go_upto_region 36 with fail
                            refine wp_region_planE_gen (by kernel_rfl) [(0, none), (1, none), (2, none), (3, none), (4, none), (5, none), (6, none), (7, none), (8, none), (9, none), (10, none), (11, none), (12, none), (13, none), (14, none), (15, none), (16, none), (17, none), (18, none), (19, none), (20, none), (21, some [0, 2, 3, 4, 5, 6, 7, 11, 16, 20]), (22, none), (23, none), (24, some [0, 1, 2, 3, 4, 5, 6, 7, 8, 9, 10, 11, 12, 13, 14, 15, 16, 17, 18, 19, 20, 23])] (by kernel_rfl) (by kernel_rfl) (by decide) ?_
                            intro wq hwq
                            have hBq : Below w9.heap.size w9 wq := by rw [hwq]; exact (Below.refl _ _).drew
                            have HXQ := Lib.hid (HX9.out.below hBq)
                            have HMQ : Hid (Mods (fun b => S b ∨ F b) w wq) := Lib.hid (HM9.out.below hBq)
                            have HOQ := Lib.hid (HOV.out.below hBq)
                            have hszq : w9.heap.size ≤ wq.heap.size := hBq.size
                            clear hwq hBq HX9 HM9 HOV
                            have y2 : wq.cell? ⟨p, 2, none⟩ = some (.slice (some ⟨sb, 0, none⟩) n sc) := by
                              have e : wq.cell? ⟨p, 2, none⟩ = some (.slice (some ⟨sb, 0, none⟩) lx.segs.length sc) := HXQ.out.blk.cell 2 rfl
                              rw [HXL.out.2.2.1] at e; exact e
                            have y3 : wq.cell? ⟨p, 3, none⟩ = some (.slice RA nr rc) := by
                              have e : wq.cell? ⟨p, 3, none⟩ = some (.slice RA lx.recs.length rc) := HXQ.out.blk.cell 3 rfl
                              rw [← HNR.out.1] at e; exact e
                            have y4 : wq.cell? ⟨p, 4, none⟩ = some (.int .u64 (lx.first : Int)) := HXQ.out.blk.cell 4 rfl
                            have f2 : wq.frozen? ⟨p, 2, none⟩ = false := HXQ.out.blk.free 2
                            have f3 : wq.frozen? ⟨p, 3, none⟩ = false := HXQ.out.blk.free 3
                            iterate 5 (refine planE_pure (v := ?_) rfl (by rfl) (fun w' => ?_) ?_; rotate_left; (focus (simp only [List.getElem_toArray, List.getElem_cons_succ, List.getElem_cons_zero]; go_simp; first | with_reducible rfl | (simp (disch := omega) only [if_pos, if_neg, dif_pos, Result.andThen_ok]; try with_reducible rfl) | skip)); try simp only [List.getElem_toArray, List.getElem_cons_succ, List.getElem_cons_zero, Act.put, List.setIfInBounds_toArray, List.set_cons_zero, List.set_cons_succ])
                            refine planE_cells (v := ?_) [(⟨p, 2, none⟩, .slice (some ⟨sb, 0, none⟩) n sc)] (by simp; and_intros <;> assumption) rfl (by rfl) (fun w' hw' => ?_) ?_; rotate_left; (focus (simp only [List.forall_mem_cons, List.not_mem_nil, false_imp_iff, implies_true, and_true] at hw'; simp only [List.getElem_toArray, List.getElem_cons_succ, List.getElem_cons_zero]; go_simp; first | with_reducible rfl | (simp (disch := omega) only [if_pos, if_neg, dif_pos, Result.andThen_ok]; try with_reducible rfl) | skip)); try simp only [List.getElem_toArray, List.getElem_cons_succ, List.getElem_cons_zero, Act.put, List.setIfInBounds_toArray, List.set_cons_zero, List.set_cons_succ]
                            iterate 5 (refine planE_pure (v := ?_) rfl (by rfl) (fun w' => ?_) ?_; rotate_left; (focus (simp only [List.getElem_toArray, List.getElem_cons_succ, List.getElem_cons_zero]; go_simp; first | with_reducible rfl | (simp (disch := omega) only [if_pos, if_neg, dif_pos, Result.andThen_ok]; try with_reducible rfl) | skip)); try simp only [List.getElem_toArray, List.getElem_cons_succ, List.getElem_cons_zero, Act.put, List.setIfInBounds_toArray, List.set_cons_zero, List.set_cons_succ])
                            refine planE_cells (v := ?_) [(⟨p, 3, none⟩, .slice RA nr rc)] (by simp; and_intros <;> assumption) rfl (by rfl) (fun w' hw' => ?_) ?_; rotate_left; (focus (simp only [List.forall_mem_cons, List.not_mem_nil, false_imp_iff, implies_true, and_true] at hw'; simp only [List.getElem_toArray, List.getElem_cons_succ, List.getElem_cons_zero]; go_simp; first | with_reducible rfl | (simp (disch := omega) only [if_pos, if_neg, dif_pos, Result.andThen_ok]; try with_reducible rfl) | skip)); try simp only [List.getElem_toArray, List.getElem_cons_succ, List.getElem_cons_zero, Act.put, List.setIfInBounds_toArray, List.set_cons_zero, List.set_cons_succ]
                            iterate 4 (refine planE_pure (v := ?_) rfl (by rfl) (fun w' => ?_) ?_; rotate_left; (focus (simp only [List.getElem_toArray, List.getElem_cons_succ, List.getElem_cons_zero]; go_simp; first | with_reducible rfl | (simp (disch := omega) only [if_pos, if_neg, dif_pos, Result.andThen_ok]; try with_reducible rfl) | skip)); try simp only [List.getElem_toArray, List.getElem_cons_succ, List.getElem_cons_zero, Act.put, List.setIfInBounds_toArray, List.set_cons_zero, List.set_cons_succ])
                            refine planE_cells (v := ?_) [(⟨p, 4, none⟩, .int .u64 (lx.first : Int))] (by simp; and_intros <;> assumption) rfl (by rfl) (fun w' hw' => ?_) ?_; rotate_left; (focus (simp only [List.forall_mem_cons, List.not_mem_nil, false_imp_iff, implies_true, and_true] at hw'; simp only [List.getElem_toArray, List.getElem_cons_succ, List.getElem_cons_zero]; go_simp; first | with_reducible rfl | (simp (disch := omega) only [if_pos, if_neg, dif_pos, Result.andThen_ok]; try with_reducible rfl) | skip)); try simp only [List.getElem_toArray, List.getElem_cons_succ, List.getElem_cons_zero, Act.put, List.setIfInBounds_toArray, List.set_cons_zero, List.set_cons_succ]
                            iterate 4 (refine planE_pure (v := ?_) rfl (by rfl) (fun w' => ?_) ?_; rotate_left; (focus (simp only [List.getElem_toArray, List.getElem_cons_succ, List.getElem_cons_zero]; go_simp; first | with_reducible rfl | (simp (disch := omega) only [if_pos, if_neg, dif_pos, Result.andThen_ok]; try with_reducible rfl) | skip)); try simp only [List.getElem_toArray, List.getElem_cons_succ, List.getElem_cons_zero, Act.put, List.setIfInBounds_toArray, List.set_cons_zero, List.set_cons_succ])
                            refine planE_eff rfl (by rfl) (fun K hK => ?_)
                            go_simp
                            have HX10 : Hid (LX B S7 F (wq.setCell ⟨p, 2, none⟩ (.slice (some ⟨sb, 0, none⟩) k' sc)) p g { lx with segs := lx.segs.take k' } D8 (Zx.take k') Y (some ⟨sb, 0, none⟩) sc RA rc) := Lib.hid (by
                              have h := HXQ.out.setSegs (Z' := Zx.take k') (List.take_sublist _ _) (by rw [List.map_take]; exact HXQ.out.lb.sv.take k') HXQ.out.lb.fs (n := k') (by rw [List.length_take, HZL.out.1]; omega)
                              rw [List.map_take, HXQ.out.zs] at h
                              exact h)
                            have m10 : Mods (· = p) wq (wq.setCell ⟨p, 2, none⟩ (.slice (some ⟨sb, 0, none⟩) k' sc)) := (Mods.refl (· = p) wq).setCell ⟨p, _, none⟩ (.inl rfl) _
                            have HM10 : Hid (Mods (fun b => S b ∨ F b) w (wq.setCell ⟨p, 2, none⟩ (.slice (some ⟨sb, 0, none⟩) k' sc))) := Lib.hid (HMQ.out.trans m10 (fun i hi => .inl (.inr (by rw [hi]; exact HP.out))))
                            have HO10 : Hid (OV (wq.setCell ⟨p, 2, none⟩ (.slice (some ⟨sb, 0, none⟩) k' sc)) w8.heap.size 9 R c ((NL.take i).map encStr)) := Lib.hid (HOQ.out.mods m10 (fun k hk e => HOQ.out.ne_blk HXQ.out.blk (by decide) (by rw [hk, e])))
                            have hs10 : wq.heap.size ≤ (wq.setCell ⟨p, 2, none⟩ (.slice (some ⟨sb, 0, none⟩) k' sc)).heap.size := m10.size
                            clear y2 y3 y4 f2 f3 HXQ HMQ HOQ m10
                            generalize wq.setCell ⟨p, 2, none⟩ (.slice (some ⟨sb, 0, none⟩) k' sc) = w10 at *
                            have y3 : w10.cell? ⟨p, 3, none⟩ = some (.slice RA nr rc) := by
                              have e : w10.cell? ⟨p, 3, none⟩ = some (.slice RA lx.recs.length rc) := HX10.out.blk.cell 3 rfl
                              rw [← HNR.out.1] at e; exact e
                            have f3 : w10.frozen? ⟨p, 3, none⟩ = false := HX10.out.blk.free 3
                            refine hK _ _ (by simp [owed, left] <;> (and_intros <;> first | trivial | assumption)) ?_
                            clear hK K
                            try simp only [List.getElem_toArray, List.getElem_cons_succ, List.getElem_cons_zero, Act.put, List.setIfInBounds_toArray, List.set_cons_zero, List.set_cons_succ]
                            iterate 2 (refine planE_pure (v := ?_) rfl (by rfl) (fun w' => ?_) ?_; rotate_left; (focus (simp only [List.getElem_toArray, List.getElem_cons_succ, List.getElem_cons_zero]; go_simp; first | with_reducible rfl | (simp (disch := omega) only [if_pos, if_neg, dif_pos, Result.andThen_ok]; try with_reducible rfl) | skip)); try simp only [List.getElem_toArray, List.getElem_cons_succ, List.getElem_cons_zero, Act.put, List.setIfInBounds_toArray, List.set_cons_zero, List.set_cons_succ])
                            refine planE_eff rfl (by rfl) (fun K hK => ?_)
                            go_simp
                            have HX11 : Hid (LX B S7 F (w10.setCell ⟨p, 3, none⟩ (.slice RA j rc)) p g { lx with segs := lx.segs.take k', recs := lx.recs.take j } D8 (Zx.take k') (Y.take j) (some ⟨sb, 0, none⟩) sc RA rc) := Lib.hid (by
                              have h := HX10.out.setRecs (Y' := Y.take j) (fun y hy => List.mem_of_mem_take hy) (by rw [List.map_take]; exact HX10.out.lb.rv.take j) HX10.out.lb.fr (n := j) (by
                                have h2 := HX10.out.lens.2
                                have h3 := HNR.out.1
                                have h4 := HHB.out.1
                                rw [List.length_take, h2]
                                show j = min j lx.recs.length
                                omega)
                              rw [List.map_take, HX10.out.ys] at h
                              exact h)
                            have m11 : Mods (· = p) w10 (w10.setCell ⟨p, 3, none⟩ (.slice RA j rc)) := (Mods.refl (· = p) w10).setCell ⟨p, _, none⟩ (.inl rfl) _
                            have HM11 : Hid (Mods (fun b => S b ∨ F b) w (w10.setCell ⟨p, 3, none⟩ (.slice RA j rc))) := Lib.hid (HM10.out.trans m11 (fun i hi => .inl (.inr (by rw [hi]; exact HP.out))))
                            have HO11 : Hid (OV (w10.setCell ⟨p, 3, none⟩ (.slice RA j rc)) w8.heap.size 9 R c ((NL.take i).map encStr)) := Lib.hid (HO10.out.mods m11 (fun k hk e => HO10.out.ne_blk HX10.out.blk (by decide) (by rw [hk, e])))
                            have hs11 : w10.heap.size ≤ (w10.setCell ⟨p, 3, none⟩ (.slice RA j rc)).heap.size := m11.size
                            clear y3 f3 HX10 HM10 HO10 m11
                            generalize w10.setCell ⟨p, 3, none⟩ (.slice RA j rc) = w11 at *
                            refine hK _ _ (by simp [owed, left] <;> (and_intros <;> first | trivial | assumption)) ?_
                            clear hK K
                            try simp only [List.getElem_toArray, List.getElem_cons_succ, List.getElem_cons_zero, Act.put, List.setIfInBounds_toArray, List.set_cons_zero, List.set_cons_succ]
                            refine planE_end ?_
                            have hnl : NL.take i = NL := List.take_of_length_le (by rw [HNM.out]; exact Nat.le_refl _)
                            rw [hnl] at HO11
                            have hw11 : w.heap.size ≤ w11.heap.size := HM11.out.size
                            have hcap2 := HO11.out.cap
                            rw [List.length_map] at hcap2
                            have HR3 : Hid (r = removeW NL { lx with segs := lx.segs.take k', recs := lx.recs.take j } D8) := Lib.hid (by
                              rw [HR2.out, ← HNR.out.2, ← HZS.out, ← List.map_drop, List.map_map, HNL.out]
                              rfl)
                            have RM := walRemove HX11.out (Nat.le_trans hB hw11) NL (by rw [HNM.out]; have := HC8.out; have := hmn.out; omega) R c HO11.out.rv (fun _ b hb => by
                              have h1 := (HO11.out.blk_lt b hb).1
                              exact ⟨fun hs => by have := HS7D.out.1 b hs; omega, fun e => by have := HS7D.out.2; omega⟩) (fun f hf => by
                              rw [HNL.out] at hf
                              obtain ⟨y, hy, rfl⟩ := List.mem_map.1 hf
                              refine HXL.out.2.2.2.2 y.1 ?_
                              rw [← HZS.out]
                              exact List.mem_map.2 ⟨y, List.mem_of_mem_drop hy, rfl⟩) hcap2
                            rw [← HR3.out, HNM.out] at RM
                            have RMH := Lib.hid RM
                            clear RM hcap2 hnl HR3 HR2
                            go_wp2_with (go_at_call 39; refine RMH.out.mono ?_)
                            rintro e w12 ⟨rfl, S12, hx12, hs12, hm12⟩
                            have HF : Hid (LDone B S F w p g (.int .i64 r.1) r.2.1 r.2.2 (.returned (.int .i64 r.1)) w12) := Lib.hid ⟨rfl, S12, F, ⟨_, _, _, _, _, _, hx12⟩, fun b hb => (hs12 b hb).elim (HS7.out b) (fun h => .inr (Nat.le_trans hw11 h)), fun b hb => .inl hb, HM11.out.trans hm12 (fun i hi => by
                              rcases hi with hi | hi
                              · exact (HS7.out i hi).imp .inl id
                              · exact .inl (.inr (by rw [hi]; exact HP.out)))⟩
                            clear hx12 hs12 hm12 RMH HX11 HM11 HO11
                            go_wp2_with fail
                            go_ret
                            exact HF.out
                    · have hqb : (q3.1 == 0) = false := by simpa using hq0
                      have HF : Hid (LDone B S F w p g (.int .i64 r.1) r.2.1 r.2.2 (.returned (.int .i64 q3.1)) w7) := Lib.hid (by
                        rw [HR1.out, if_pos hq0]
                        exact ⟨rfl, _, F, ⟨_, _, _, _, _, _, HX7.out⟩, HS7.out, fun b hb => .inl hb, HM7.out⟩)
                      clear HX7 HM7 HS7 HR1 hq0 HOK
                      go_wp2_with fail
                      go_ret
                      exact HF.out
          · have hqb : (q.1 == 0) = false := by simpa using hq0
            have HF : Hid (LDone B S F w p g (.int .i64 r.1) r.2.1 r.2.2 (.returned (.int .i64 q.1)) w4) := Lib.hid (by
              rw [HR.out, if_pos hq0]
              exact ⟨rfl, S4, F, ⟨_, _, _, _, _, _, HX4.out⟩, HS4.out, fun b hb => .inl hb, HM4.out⟩)
            clear HX4 HS4 HM4 HR HQ hq0
            go_wp2_with fail
            go_ret
            exact HF.out
end
end Go.Proofs.YtjgonfnpfbifjaaGreatDoor
/- Plain: what a log of records of few bytes comes to behind Append, Sync, Drop and Cut. -/
namespace Go.Proofs.YtjgonfnpfbifjaaGreatDoor
open Go.Lib

/-- A disk on which all goes well. -/
structure DOk (D : DSt) (c : Nat) : Prop where
  dd : D.down = false
  fu : D.fuse = 0
  ro : D.room = 4000000
  cn : D.cnt ≤ c
  fs : ∀ p ∈ D.files, p.2.length ≤ 2000
theorem fsize_le : ∀ (F : FS), (∀ p ∈ F, p.2.length ≤ 2000) → fsize F ≤ F.length * 2000
  | [], _ => by simp [fsize]
  | p :: r, h => by
    have h1 := fsize_le r (fun q hq => h q (List.mem_cons_of_mem _ hq))
    have h2 := h p (List.mem_cons_self ..)
    unfold fsize at h1 ⊢
    simp only [List.map_cons, List.sum_cons, List.length_cons]
    omega
theorem files_snoc (D : DSt) (u : Wr) : ({ D with unsure := D.unsure ++ [u] } : DSt).files = doF D.files u := by
  unfold DSt.files
  rw [List.foldl_append]
  rfl
section
variable {D : DSt} {c : Nat} {f : Nm} {x : List UInt8} {off : Nat} {l : Lg}
theorem DOk.snoc (h : DOk D c) (u : Wr) (hu : ∀ p ∈ doF D.files u, p.2.length ≤ 2000) : DOk { D with unsure := D.unsure ++ [u] } (c + 1) :=
  ⟨h.dd, h.fu, h.ro, by have := h.cn; unfold DSt.cnt at this ⊢; simp only [List.length_append, List.length_cons, List.length_nil]; omega, by rw [files_snoc]; exact hu⟩
theorem DOk.room (h : DOk D c) (hc : c ≤ 900) (k : Nat) (hk : k ≤ 3000) : (fsize D.files : Int) + (k : Int) ≤ D.room ∧ D.files.length < 4096 := by
  have h1 := fsize_le D.files h.fs
  have h2 := files_len D
  have h3 := h.cn
  rw [h.ro]
  omega
theorem DOk.put (h : DOk D c) (hc : c ≤ 900) (hn : nameOk f = true) (ho : off + x.length ≤ 2000) : ∃ D', putW D f off x = (0, D') ∧ DOk D' (c + 1) := by
  obtain ⟨h1, h2⟩ := h.room hc (off + x.length) (by omega)
  refine ⟨_, putW_idle h.dd h.fu (refuse_room h.dd hn (by omega) h2 (by omega)), h.snoc _ (fun p hp => ?_)⟩
  unfold doF at hp
  rw [if_pos rfl] at hp
  rcases fset_mem hp with rfl | hp
  · have hl : ((fget D.files f).getD []).length ≤ 2000 := by
      rcases e : fget D.files f with _ | b
      · simp
      · exact h.fs _ (fget_mem e)
    show (putD ((fget D.files f).getD []) off x).length ≤ 2000
    rw [putD_len]
    omega
  · exact h.fs p hp
theorem DOk.cut (h : DOk D c) (hc : c ≤ 900) (hn : nameOk f = true) (ho : off ≤ 2000) : ∃ D', cutS D f off = (0, D') ∧ DOk D' (c + 1) := by
  obtain ⟨h1, h2⟩ := h.room hc off (by omega)
  have hr : refuseD D ⟨2, f, off, []⟩ (off : Int) = 0 := by
    unfold refuseD
    rw [if_neg (by rw [h.dd]; simp), if_neg (by rw [hn]; simp; omega), if_neg (by omega), if_neg]
    simp only [afterN]
    rintro ⟨_, h3⟩
    simp at h3
    omega
  refine ⟨{ D with unsure := D.unsure ++ [⟨2, f, off, []⟩] }, ?_, h.snoc _ (fun p hp => ?_)⟩
  · unfold cutS changeD
    rw [if_neg (by rw [hr]; simp), burn_idle h.fu, if_neg (by rw [h.dd]; simp)]
  · unfold doF at hp
    rw [if_neg (by simp), if_pos rfl] at hp
    rcases fset_mem hp with rfl | hp
    · show (resizeD ((fget D.files f).getD []) off).length ≤ 2000
      rw [resizeD_len]
      omega
    · exact h.fs p hp
theorem DOk.rm (h : DOk D c) (hn : nameOk f = true) : ∃ D', rmD D f = (0, D') ∧ DOk D' (c + 1) := by
  refine ⟨_, rm_idle h.dd h.fu hn, h.snoc _ (fun p hp => ?_)⟩
  unfold doF at hp
  rw [if_neg (by simp), if_neg (by simp), if_pos rfl] at hp
  unfold fdel at hp
  exact h.fs p (List.mem_filter.1 hp).1
theorem DOk.sync (h : DOk D c) (hl : l.down = false) : ∃ D', syncW l D = (0, l, D') ∧ DOk D' c := by
  refine ⟨{ D with sure := D.files, unsure := [] }, ?_, ⟨h.dd, h.fu, h.ro, ?_, h.fs⟩⟩
  · unfold syncW syncD
    rw [if_neg (by rw [hl]; simp), if_neg (by rw [h.dd]; simp), burn_idle h.fu, if_neg (by rw [h.dd]; simp)]
    show (0, l.fell 0, _) = _
    rw [fell_ok hl]
  · have h1 := files_len D
    have h2 := h.cn
    show D.files.length + 0 ≤ c
    omega
theorem DOk.remove : ∀ {NL : List Nm} {D : DSt} {c : Nat}, DOk D c → l.down = false → (∀ f ∈ NL, nameOk f = true) → ∃ D', removeW NL l D = (0, l, D') ∧ DOk D' (c + NL.length)
  | [], D, c, h, hl, _ => by rw [removeW]; exact h.sync hl
  | f :: r, D, c, h, hl, hn => by
    obtain ⟨D1, e1, h1⟩ := h.rm (hn f (List.mem_cons_self ..))
    obtain ⟨D2, e2, h2⟩ := DOk.remove (NL := r) h1 hl (fun g hg => hn g (List.mem_cons_of_mem _ hg))
    refine ⟨D2, ?_, by rw [List.length_cons, show c + (r.length + 1) = c + 1 + r.length from by omega]; exact h2⟩
    rw [removeW, e1, if_neg (by simp), fell_ok hl]
    exact e2
end
theorem chain_snoc : ∀ {A : List Sg} {s : Sg} {f n : Nat}, SegsCh (A ++ [s]) f n ↔ ∃ m, SegsCh A f m ∧ s.first = m ∧ 0 < s.marks.length ∧ m + (s.marks.length - 1) = n
  | [], s, f, n => by
    constructor
    · rintro ⟨h1, h2, h3⟩
      exact ⟨f, rfl, h1, h2, h3⟩
    · rintro ⟨m, h0, h1, h2, h3⟩
      have e : f = m := h0
      subst e
      exact ⟨h1, h2, h3⟩
  | a :: A, s, f, n => by
    constructor
    · rintro ⟨h1, h2, h3⟩
      obtain ⟨m, g1, g2, g3, g4⟩ := chain_snoc.1 h3
      exact ⟨m, ⟨h1, h2, g1⟩, g2, g3, g4⟩
    · rintro ⟨m, ⟨h1, h2, g1⟩, g2, g3, g4⟩
      exact ⟨h1, h2, chain_snoc.2 ⟨m, g1, g2, g3, g4⟩⟩
/-- How many bytes so many records hold, from one on. -/
def bytesOf (L : List (List UInt8)) (i k : Nat) : Nat := (((L.drop i).take k).map List.length).sum
theorem bytesOf_succ (L : List (List UInt8)) {i k : Nat} (h : i + k < L.length) : bytesOf L i (k + 1) = bytesOf L i k + L[i + k].length := by
  unfold bytesOf
  have e : (L.drop i)[k]? = some L[i + k] := by rw [List.getElem?_drop, List.getElem?_eq_getElem h]
  rw [List.take_add_one, e, List.map_append, List.sum_append]
  simp
theorem bytesOf_mono (L : List (List UInt8)) (i : Nat) {j k : Nat} (h : j ≤ k) : bytesOf L i j ≤ bytesOf L i k := by
  induction k with
  | zero => obtain rfl : j = 0 := by omega
            exact Nat.le_refl _
  | succ k ih =>
    by_cases hj : j = k + 1
    · subst hj; exact Nat.le_refl _
    · have h1 := ih (by omega)
      by_cases hk : i + k < L.length
      · rw [bytesOf_succ L hk]; omega
      · have e : bytesOf L i (k + 1) = bytesOf L i k := by
          unfold bytesOf
          rw [List.take_of_length_le (by rw [List.length_drop]; omega), List.take_of_length_le (by rw [List.length_drop]; omega)]
        omega
/-- A segment that holds few bytes: its records are those of L from its first number on (numbers from 1). -/
structure SegFew (L : List (List UInt8)) (s : Sg) : Prop where
  name : s.name = walName 0 s.first
  f1 : 1 ≤ s.first ∧ s.first ≤ 1000
  tot : bytesOf L (s.first - 1) (s.marks.length - 1) ≤ s.stop
  few : bytesOf L (s.first - 1) (s.marks.length - 2) < 512
  stop : s.stop ≤ 1100
  mks : ∀ m ∈ s.marks, m ≤ 1100
/-- A log that holds the first n records of L, from its first number on. -/
structure WOk (L : List (List UInt8)) (n : Nat) (l : Lg) : Prop where
  era : l.era = 0
  dn : l.down = false
  f1 : 1 ≤ l.first ∧ l.first ≤ n + 1
  recs : l.recs = (L.take n).drop (l.first - 1)
  ne : l.segs ≠ []
  ch : SegsCh l.segs l.first (n + 1)
  sg : ∀ s ∈ l.segs, SegFew L s
  sl : l.segs.length ≤ n + 1
theorem SegFew.ok {L : List (List UInt8)} {s : Sg} (h : SegFew L s) : nameOk s.name = true := by
  rw [h.name]
  refine nameOk_wal ?_
  have h2 := nDigits_le (u := s.first) (by have := h.f1; omega)
  have h3 : (decDigits 0).length = 1 := by rw [decDigits]; simp
  rw [h3, decDigits_length]
  omega
section
variable {L : List (List UInt8)} {n c : Nat} {l : Lg} {D : DSt}
theorem WOk.rlen (h : WOk L n l) (hn : n ≤ L.length) : l.recs.length = n + 1 - l.first ∧ l.next = n + 1 := by
  have h1 := h.f1
  have h2 : l.recs.length = n + 1 - l.first := by
    rw [h.recs, List.length_drop, List.length_take]
    omega
  refine ⟨h2, ?_⟩
  unfold Lg.next
  omega
theorem recB_ge (n : Nat) (r : List UInt8) : r.length ≤ (recB n r).length := by
  unfold recB
  rw [frameB_len, List.length_append]
  omega
/-- A record more. -/
theorem WOk.append (h : WOk L n l) (hd : DOk D c) (hc : c ≤ 900) (hn : n < L.length) (hrl : L[n].length ≤ 512) (h80 : L.length ≤ 80) :
    ∃ l' D', appendW l D [L[n]] = (0, l', D') ∧ WOk L (n + 1) l' ∧ DOk D' (c + 1) ∧ l'.first = l.first := by
  obtain ⟨hr1, hr2⟩ := h.rlen (by omega)
  have hb1 := recB_len (n + 1) L[n]
  have hb2 := recB_ge (n + 1) L[n]
  have hf1 := h.f1
  have hrecs : l.recs ++ [L[n]] = (L.take (n + 1)).drop (l.first - 1) := by
    rw [h.recs, List.take_succ_eq_append_getElem hn, List.drop_append_of_le_length (by rw [List.length_take]; omega)]
  obtain ⟨S1, s, hS⟩ : ∃ S1 s, l.segs = S1 ++ [s] := ⟨l.segs.dropLast, l.segs.getLast h.ne, (List.dropLast_concat_getLast h.ne).symm⟩
  have hlast : l.segs.getLast? = some s := by rw [hS]; simp
  have hch := h.ch
  rw [hS] at hch
  obtain ⟨m, hc1, hc2, hc3, hc4⟩ := chain_snoc.1 hch
  have hsg := h.sg s (by rw [hS]; simp)
  have hsf := hsg.f1
  have hmB : ∀ i, marksB i l.next [L[n]] = [i + (recB (n + 1) L[n]).length] := fun i => by rw [hr2]; rfl
  have hrB : recsB l.next [L[n]] = recB (n + 1) L[n] := by rw [hr2]; unfold recsB recsB; simp
  have hfin : ∀ (l' : Lg) (D' : DSt), (putW D l.to.name l.to.stop (recB (n + 1) L[n])) = (0, D') → l' = { l with segs := (if l.fits = true then l.segs.dropLast else l.segs) ++ [{ l.to with marks := l.to.marks ++ [l.to.stop + (recB (n + 1) L[n]).length] }], recs := l.recs ++ [L[n]] } → appendW l D [L[n]] = (0, l', D') := fun l' D' e1 e2 => by
    unfold appendW
    rw [if_neg (by rw [h.dn]; simp), if_neg (by simp; omega), if_neg (by simp), hrB, e1, if_neg (by simp), hmB, e2]
  by_cases hst : s.stop < 512
  · have hfit : l.fits = true := by unfold Lg.fits; rw [hlast]; simpa using hst
    have hto : l.to = s := by unfold Lg.to; rw [hlast]; simp [hst]
    obtain ⟨D', e1, hd'⟩ := hd.put (f := s.name) (off := s.stop) (x := recB (n + 1) L[n]) hc hsg.ok (by omega)
    refine ⟨_, D', hfin _ D' (by rw [hto]; exact e1) rfl, ?_, hd', rfl⟩
    rw [hto, if_pos hfit, hS, List.dropLast_concat]
    have hidx : s.first - 1 + (s.marks.length - 1) = n := by omega
    have hml : (s.marks ++ [s.stop + (recB (n + 1) L[n]).length]).length = s.marks.length + 1 := by simp
    have hst' : Sg.stop { s with marks := s.marks ++ [s.stop + (recB (n + 1) L[n]).length] } = s.stop + (recB (n + 1) L[n]).length := by
      unfold Sg.stop
      simp only [List.getLastD_concat]
    refine ⟨h.era, h.dn, ⟨hf1.1, by show l.first ≤ n + 1 + 1; omega⟩, hrecs, by simp, ?_, fun s' hs' => ?_, by
      have := h.sl; rw [hS] at this; simp only [List.length_append, List.length_cons, List.length_nil] at this ⊢; omega⟩
    · refine chain_snoc.2 ⟨m, hc1, hc2, by simp, ?_⟩
      show m + ((s.marks ++ [_]).length - 1) = n + 1 + 1
      rw [hml]
      omega
    · rcases List.mem_append.1 hs' with hs' | hs'
      · exact h.sg s' (by rw [hS]; exact List.mem_append_left _ hs')
      · rw [List.mem_singleton.1 hs']
        have hbs := bytesOf_succ L (i := s.first - 1) (k := s.marks.length - 1) (by omega)
        refine ⟨hsg.name, hsg.f1, ?_, ?_, by rw [hst']; omega, fun k hk => ?_⟩
        · rw [hst']
          show bytesOf L (s.first - 1) ((s.marks ++ [_]).length - 1) ≤ _
          rw [hml, show s.marks.length + 1 - 1 = s.marks.length - 1 + 1 from by omega, hbs]
          have e : L[s.first - 1 + (s.marks.length - 1)].length = L[n].length := by congr 1; simp only [hidx]
          rw [e]
          have := hsg.tot
          omega
        · show bytesOf L (s.first - 1) ((s.marks ++ [_]).length - 2) < 512
          rw [hml, show s.marks.length + 1 - 2 = s.marks.length - 1 from by omega]
          have := hsg.tot
          omega
        · rcases List.mem_append.1 hk with hk | hk
          · exact hsg.mks k hk
          · rw [List.mem_singleton.1 hk]; omega
  · have hfit : l.fits = false := by unfold Lg.fits; rw [hlast]; simpa using hst
    have hto : l.to = ⟨walName 0 (n + 1), n + 1, [0]⟩ := by unfold Lg.to; rw [hlast, h.era, hr2]; simp [hst]
    have hok : nameOk (walName 0 (n + 1)) = true := by
      refine nameOk_wal ?_
      have h2 := nDigits_le (u := n + 1) (by omega)
      have h3 : (decDigits 0).length = 1 := by rw [decDigits]; simp
      rw [h3, decDigits_length]
      omega
    obtain ⟨D', e1, hd'⟩ := hd.put (f := walName 0 (n + 1)) (off := 0) (x := recB (n + 1) L[n]) hc hok (by omega)
    refine ⟨_, D', hfin _ D' (by rw [hto]; exact e1) rfl, ?_, hd', rfl⟩
    rw [hto, if_neg (by rw [hfit]; simp)]
    have hbs := bytesOf_succ L (i := n) (k := 0) (by omega)
    have hb0 : bytesOf L n 0 = 0 := by simp [bytesOf]
    refine ⟨h.era, h.dn, ⟨hf1.1, by show l.first ≤ n + 1 + 1; omega⟩, hrecs, by simp, ?_, fun s' hs' => ?_, by
      have := h.sl; simp only [List.length_append, List.length_cons, List.length_nil]; omega⟩
    · exact chain_snoc.2 ⟨n + 1, h.ch, rfl, by simp, by simp⟩
    · rcases List.mem_append.1 hs' with hs' | hs'
      · exact h.sg s' hs'
      · rw [List.mem_singleton.1 hs']
        refine ⟨rfl, ⟨by show 1 ≤ n + 1; omega, by show n + 1 ≤ 1000; omega⟩, ?_, ?_, ?_, fun k hk => ?_⟩
        · show bytesOf L (n + 1 - 1) 1 ≤ _
          rw [Nat.add_sub_cancel, hbs, hb0]
          simp only [Sg.stop, Nat.add_zero]
          simp
          omega
        · show bytesOf L (n + 1 - 1) 0 < 512
          rw [Nat.add_sub_cancel, hb0]; omega
        · simp only [Sg.stop]
          simp
          omega
        · have e0 : Sg.stop ⟨walName 0 (n + 1), n + 1, [0]⟩ = 0 := rfl
          simp at hk
          omega
/-- What lies below a number is little, at a log whose first segment holds that number or all. -/
def Few (L : List (List UInt8)) (l : Lg) (t : Nat) : Prop := bytesOf L (l.first - 1) (t - l.first) ≤ 1100
theorem WOk.few1 (h : WOk L n l) {a : Sg} {r : List Sg} (hs : l.segs = a :: r) {t : Nat} (ht : t ≤ n + 1) (hb : ∀ b q, r = b :: q → t < b.first) : Few L l t := by
  have hch := h.ch
  rw [hs] at hch
  obtain ⟨h1, h2, h3⟩ := hch
  have ha := h.sg a (by rw [hs]; simp)
  have hm : t - l.first ≤ a.marks.length - 1 := by
    cases r with
    | nil => have e : l.first + (a.marks.length - 1) = n + 1 := h3; omega
    | cons b q =>
      have e := h3.1
      have := hb b q rfl
      omega
  unfold Few
  have h4 := bytesOf_mono L (l.first - 1) hm
  have h5 := ha.tot
  have h6 := ha.stop
  rw [h1] at h5
  omega
theorem WOk.drop (hL : n ≤ L.length) : ∀ (k : Nat) (l : Lg) (D : DSt) (c : Nat), WOk L n l → DOk D c → ∀ t, t ≤ n + 1 → l.first ≤ t → l.segs.length ≤ k → ∃ l' D', dropLoop t k l D = (0, l', D') ∧ WOk L n l' ∧ DOk D' (c + k) ∧ l'.first ≤ t ∧ Few L l' t
  | 0, l, D, c, h, _, t, _, _, hk => by
    have := List.length_pos_iff.2 h.ne
    omega
  | k + 1, l, D, c, h, hd, t, ht, hf, hk => by
    match hs : l.segs with
    | [] => exact absurd hs h.ne
    | [a] =>
      refine ⟨l, D, by unfold dropLoop; rw [hs], h, ⟨hd.dd, hd.fu, hd.ro, by have := hd.cn; omega, hd.fs⟩, hf, h.few1 hs ht (fun b q e => by cases e)⟩
    | a :: b :: r =>
      by_cases hb : b.first ≤ t
      · have ha := h.sg a (by rw [hs]; simp)
        obtain ⟨D1, e1, hd1⟩ := hd.remove (NL := [a.name]) h.dn (fun f hf => by rw [List.mem_singleton.1 hf]; exact ha.ok)
        have hch := h.ch
        rw [hs] at hch
        obtain ⟨h1, h2, h3⟩ := hch
        have hbf := h3.1
        have hle := h3.le
        have hW : WOk L n { l with recs := l.recs.drop (b.first - l.first), segs := b :: r, first := b.first } := by
          have hf1 := h.f1
          refine ⟨h.era, h.dn, ⟨by show 1 ≤ b.first; omega, by show b.first ≤ n + 1; omega⟩, ?_, by simp, ?_, fun s hs' => h.sg s (by rw [hs]; exact List.mem_cons_of_mem _ hs'), by have := h.sl; rw [hs] at this; simp only [List.length_cons] at this ⊢; omega⟩
          · show l.recs.drop (b.first - l.first) = _
            rw [h.recs, List.drop_drop, show l.first - 1 + (b.first - l.first) = b.first - 1 from by omega]
          · show SegsCh (b :: r) b.first (n + 1)
            rw [← hbf] at h3
            exact h3
        obtain ⟨l2, D2, e2, k1, k2, k3, k4⟩ := WOk.drop hL k _ D1 (c + 1) hW hd1 t ht hb (by rw [hs] at hk; simp only [List.length_cons] at hk ⊢; omega)
        refine ⟨l2, D2, ?_, k1, by rw [show c + (k + 1) = c + 1 + k from by omega]; exact k2, k3, k4⟩
        unfold dropLoop
        rw [hs]
        simp only [hb, if_true]
        rw [e1, if_neg (by simp)]
        exact e2
      · refine ⟨l, D, ?_, h, ⟨hd.dd, hd.fu, hd.ro, by have := hd.cn; omega, hd.fs⟩, hf, h.few1 hs ht (fun b' q e => by injection e with e1 _; rw [← e1]; omega)⟩
        unfold dropLoop
        rw [hs]
        simp only [hb, if_false]
theorem WOk.dropW (h : WOk L n l) (hd : DOk D c) (hL : n ≤ L.length) {t : Nat} (ht : t ≤ n + 1) (hf : l.first ≤ t) : ∃ l' D', dropW l D t = (0, l', D') ∧ WOk L n l' ∧ DOk D' (c + l.segs.length) ∧ l'.first ≤ t ∧ Few L l' t := by
  obtain ⟨D1, e1, hd1⟩ := hd.sync h.dn
  obtain ⟨l2, D2, e2, k1, k2, k3, k4⟩ := WOk.drop hL l.segs.length l D1 c h hd1 t ht hf (Nat.le_refl _)
  refine ⟨l2, D2, ?_, k1, k2, k3, k4⟩
  have hnx := (h.rlen hL).2
  unfold Go.Proofs.YtjgonfnpfbifjaaGreatDoor.dropW
  rw [if_neg (by rw [h.dn]; simp), if_neg (by omega), e1, if_neg (by simp)]
  exact e2
theorem downTo_le (t : Nat) (S : List Sg) : ∀ k, downTo t S k ≤ k
  | 0 => Nat.le_refl _
  | k + 1 => by
    unfold downTo
    split
    · have := downTo_le t S k; omega
    · exact Nat.le_refl _
theorem wcutC_ok {t k : Nat} (hl : l.down = false) (hd : DOk D c) (hn : ∀ s ∈ l.segs, nameOk s.name = true) : ∃ D', wcutC l D t k = (0, { l with segs := l.segs.take k, recs := l.recs.take (t - l.first) }, D') := by
  obtain ⟨D1, e1, hd1⟩ := hd.sync hl
  obtain ⟨D2, e2, _⟩ := DOk.remove (l := { l with segs := l.segs.take k, recs := l.recs.take (t - l.first) }) (NL := (l.segs.drop k).map Sg.name) hd1 hl (fun f hf => by
    obtain ⟨s, hs, rfl⟩ := List.mem_map.1 hf
    exact hn s (List.mem_of_mem_drop hs))
  refine ⟨D2, ?_⟩
  unfold wcutC
  rw [e1, if_neg (by simp)]
  exact e2
theorem WOk.cut (h : WOk L n l) (hd : DOk D c) (hc : c ≤ 900) (hL : n ≤ L.length) {t : Nat} (ht : t ≤ n + 1) (hf : l.first ≤ t) :
    (wcutW l D t).1 = 0 ∧ (wcutW l D t).2.1.first = l.first ∧ (wcutW l D t).2.1.down = false ∧ (wcutW l D t).2.1.recs = (L.take (t - 1)).drop (l.first - 1) := by
  obtain ⟨D1, e1, hd1⟩ := hd.sync h.dn
  obtain ⟨hr1, hr2⟩ := h.rlen hL
  have hf1 := h.f1
  have hcut : l.recs.take (t - l.first) = (L.take (t - 1)).drop (l.first - 1) := by
    rw [h.recs, List.take_drop, List.take_take]
    congr 2
    omega
  unfold wcutW
  rw [if_neg (by rw [h.dn]; simp), if_neg (by omega), if_neg (by omega)]
  by_cases hn : t = l.next
  · rw [if_pos hn, e1]
    refine ⟨rfl, rfl, h.dn, ?_⟩
    rw [hr2] at hn
    subst hn
    exact h.recs
  · rw [if_neg hn, e1, if_neg (by simp)]
    have hkl : downTo t l.segs (l.segs.length - 1) < l.segs.length := by
      have h1 := downTo_le t l.segs (l.segs.length - 1)
      have h2 := List.length_pos_iff.2 h.ne
      omega
    obtain ⟨s, hs⟩ : ∃ s, l.segs[downTo t l.segs (l.segs.length - 1)]? = some s := ⟨_, List.getElem?_eq_getElem hkl⟩
    have hsm := List.mem_of_getElem? hs
    have hsg := h.sg s hsm
    have hnm : ∀ s ∈ l.segs, nameOk s.name = true := fun s hs => (h.sg s hs).ok
    unfold wcutA
    simp only [hs]
    generalize downTo t l.segs (l.segs.length - 1) = k at *
    unfold wcutB
    by_cases hA : 0 < t - s.first ∨ k = 0
    · rw [if_pos hA]
      have hmv : s.marks.getD (t - s.first) 0 ≤ 2000 := by
        rw [List.getD_eq_getElem?_getD]
        rcases e : s.marks[t - s.first]? with _ | m
        · simp
        · have := hsg.mks m (List.mem_of_getElem? e)
          simp only [Option.getD_some]; omega
      obtain ⟨D2, e2, hd2⟩ := hd1.cut (f := s.name) (off := s.marks.getD (t - s.first) 0) hc hsg.ok hmv
      rw [e2, if_neg (by simp)]
      obtain ⟨D3, e3⟩ := wcutC_ok (l := { l with segs := l.segs.set k { s with marks := s.marks.take (t - s.first + 1) } }) (t := t) (k := k + 1) h.dn hd2 (fun s' hs' => by
        rcases List.mem_or_eq_of_mem_set hs' with h1 | h1
        · exact hnm s' h1
        · rw [h1]; exact hsg.ok)
      rw [e3]
      exact ⟨rfl, rfl, h.dn, hcut⟩
    · rw [if_neg hA]
      obtain ⟨D2, e2, hd2⟩ := hd1.rm (f := s.name) hsg.ok
      rw [e2, if_neg (by simp)]
      obtain ⟨D3, e3⟩ := wcutC_ok (l := l) (t := t) (k := k) h.dn hd2 hnm
      rw [e3]
      exact ⟨rfl, rfl, h.dn, hcut⟩
theorem WOk.marksLen (h : WOk L n l) {s : Sg} (hs : s ∈ l.segs) : s.marks.length ≤ n + 2 := by
  obtain ⟨k, hk⟩ := List.getElem?_of_mem hs
  have := h.ch.get hk
  have hf := h.f1
  omega
theorem WOk.fine (h : WOk L n l) (hL : n ≤ L.length) (hn : n ≤ 1000) (hr : ∀ r ∈ L.take n, r.length ≤ 512) : l.fine ∧ l.fineD ∧ l.chain := by
  obtain ⟨hr1, hr2⟩ := h.rlen hL
  have hnm : ∀ s ∈ l.segs, s.name.length ≤ 1000 := fun s hs => by
    have hg := h.sg s hs
    rw [hg.name]
    have := walName_len (e := 0) (n := s.first) (by omega) (by have := hg.f1; omega)
    omega
  refine ⟨⟨fun s hs => ⟨by have := (h.sg s hs).stop; omega, by have := h.marksLen hs; omega, hnm s hs, by have := (h.sg s hs).f1; omega⟩, by rw [hr2]; omega, by rw [h.era]; omega, by have := h.sl; omega, by rw [hr1]; omega, fun r hm => ?_⟩, ⟨fun s hs => ⟨hnm s hs, by have := h.marksLen hs; omega⟩, by rw [hr2]; omega, by have := h.sl; omega, by rw [hr1]; omega⟩, ?_⟩
  · rw [h.recs] at hm
    have := hr r (List.mem_of_mem_drop hm)
    omega
  · unfold Lg.chain
    rw [hr2]
    exact h.ch
theorem wok_new (L : List (List UInt8)) : WOk L 0 ⟨0, [⟨walName 0 1, 1, [0]⟩], [], 1, false⟩ ∧ DOk ⟨[(walName 0 1, [])], [], 4000000, 0, false⟩ 1 := by
  refine ⟨⟨rfl, rfl, ⟨Nat.le_refl _, Nat.le_refl _⟩, by simp, by simp, ⟨rfl, by simp, rfl⟩, fun s hs => ?_, by simp⟩, ⟨rfl, rfl, rfl, Nat.le_refl _, fun p hp => ?_⟩⟩
  · have : s = ⟨walName 0 1, 1, [0]⟩ := by simpa using hs
    subst this
    exact ⟨rfl, ⟨Nat.le_refl _, by show (1 : Nat) ≤ 1000; omega⟩, by simp [bytesOf], by simp [bytesOf], by simp [Sg.stop], by simp⟩
  · have : p = (walName 0 1, []) := by simpa [DSt.files] using hp
    subst this
    simp
end
end Go.Proofs.YtjgonfnpfbifjaaGreatDoor
