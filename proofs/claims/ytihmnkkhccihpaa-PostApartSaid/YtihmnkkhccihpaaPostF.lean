/- maps.Clone of the cut ways; Copy. -/
import Derived.Test.YtihmnkkhccihpaaPostE
import Derived.Shelf.SlMaps.Clone
namespace Go.Proofs.Ytihmnkkhccihpaa
open Go.RowKit

set_option maxHeartbeats 2000000 in
theorem cloneMap (b : Nat) (es : Array MapEntry) (clock : Nat) (w : World) (hb : w.heap[b]? = some (.map es clock)) :
    Calls Try.prog 27 #[.map (some b)] w fun e w' => e = .returned (.map (some w.heap.size)) ∧ w' = w.alloc (.map es clock) := by
  have hq := fun w => run_eql_map_nil_sl (P := Try.prog) w 51 _ _ (some b) Try.underlying51
  go_enter Try.func27, Try.ntmps27
  go_wp2_with fail
  rw [run_callFunc_extern Try.func32 (by kernel_rfl) (by kernel_rfl) (by kernel_rfl) (e := Extern.MapsClone.clone) (by kernel_rfl), run_maps_clone_sl w 51 hb]
  simp only [Result.andThen]
  rw [Oper.upon_value]
  go_wp2_with fail
  rw [run_typeAssert_map_sl _ 51 20 _ _ _ Try.underlying51]
  simp only [Result.andThen]
  rw [Oper.upon_value]
  go_wp2_with fail
  go_ret
  exact ⟨rfl, rfl⟩

theorem postCopy_nil (w : World) : Calls Try.prog 18 #[.pointer none] w fun e w' => e = .returned (.pointer none) ∧ w = w' := by
  go_enter Try.func18, Try.ntmps18
  go_wp2_with fail
  go_ret
  exact ⟨rfl, rfl⟩

section
variable {g : Nat} {R : List Ltr} {A : Option Addr} {cap m : Nat} {es : List ((Int × Int) × Value)} {room : Int}

/-- All of a post lies from n on. -/
def Fresh (n g : Nat) (R : List Ltr) (A : Option Addr) (m : Nat) : Prop :=
  n ≤ g ∧ n ≤ m ∧ (∀ b, A.map (·.block) = some b → n ≤ b) ∧ ∀ r ∈ R, ∀ b, r.A.map (·.block) = some b → n ≤ b

/-- What Copy ends in. -/
def CopyE (R : List Ltr) (es : List ((Int × Int) × Value)) (room : Int) (w : World) (e : Ending) (w' : World) : Prop :=
  ∃ (g' : Nat) (R' : List Ltr) (A' : Option Addr) (cap' m' : Nat), e = .returned (.pointer (some ⟨g', 0, none⟩)) ∧ R'.map Ltr.val = R.map Ltr.val ∧ PostR w' g' R' A' cap' m' es room ∧ Fresh w.heap.size g' R' A' m' ∧ Below w.heap.size w w'

set_option maxRecDepth 20000 in
set_option maxHeartbeats 8000000 in
theorem postCopy (w : World) (h : PostR w g R A cap m es room) : Calls Try.prog 18 #[.pointer (some ⟨g, 0, none⟩)] w (CopyE R es room w) := by
  obtain ⟨es0, clock, hmb, _⟩ := h.map.size
  have H := Lib.hid h
  have HMB := Lib.hid hmb
  have hl := h.fits
  clear h hmb
  go_enter Try.func18, Try.ntmps18
  go_wp2_with fail
  refine wp_region_planE_gen (by kernel_rfl) [(0, none), (1, none), (2, none), (3, none), (5, none), (6, none), (7, none), (8, none), (4, some [3]), (9, none), (10, some [9]), (11, none)] (by kernel_rfl) (by kernel_rfl) (by decide) ?_
  intro wq hwq
  have hbq : Below w.heap.size w wq := by rw [hwq]; exact (Below.refl _ _).drew
  have hq := H.out.below hbq
  have hsz : w.heap.size ≤ wq.heap.size := hbq.size
  have hmq : wq.heap[m]? = some (.map es0 clock) := by rw [hwq]; exact HMB.out
  have c1 := hq.blk.cell 1 rfl
  have c2 := hq.blk.cell 2 rfl
  clear hwq
  iterate 3 (refine planE_pure (v := ?_) rfl (by rfl) (fun w' => ?_) ?_; rotate_left; (focus (simp only [List.getElem_toArray, List.getElem_cons_succ, List.getElem_cons_zero]; go_simp; first | with_reducible rfl | (simp (disch := omega) only [if_pos, if_neg, Result.andThen_ok]; try with_reducible rfl) | skip)); try simp only [List.getElem_toArray, List.getElem_cons_succ, List.getElem_cons_zero, Act.put, List.setIfInBounds_toArray, List.set_cons_zero, List.set_cons_succ])
  refine planE_cells (v := ?_) [(⟨g, 1, none⟩, .map (some m))] (by simp; and_intros <;> assumption) rfl (by rfl) (fun w' hw' => ?_) ?_; rotate_left; (focus (simp only [List.forall_mem_cons, List.not_mem_nil, false_imp_iff, implies_true, and_true] at hw'; simp only [List.getElem_toArray, List.getElem_cons_succ, List.getElem_cons_zero]; go_simp; first | with_reducible rfl | (simp (disch := omega) only [if_pos, if_neg, Result.andThen_ok]; try with_reducible rfl) | skip)); try simp only [List.getElem_toArray, List.getElem_cons_succ, List.getElem_cons_zero, Act.put, List.setIfInBounds_toArray, List.set_cons_zero, List.set_cons_succ]
  iterate 3 (refine planE_pure (v := ?_) rfl (by rfl) (fun w' => ?_) ?_; rotate_left; (focus (simp only [List.getElem_toArray, List.getElem_cons_succ, List.getElem_cons_zero]; go_simp; first | with_reducible rfl | (simp (disch := omega) only [if_pos, if_neg, Result.andThen_ok]; try with_reducible rfl) | skip)); try simp only [List.getElem_toArray, List.getElem_cons_succ, List.getElem_cons_zero, Act.put, List.setIfInBounds_toArray, List.set_cons_zero, List.set_cons_succ])
  refine planE_cells (v := ?_) [(⟨g, 2, none⟩, .int .i64 room)] (by simp; and_intros <;> assumption) rfl (by rfl) (fun w' hw' => ?_) ?_; rotate_left; (focus (simp only [List.forall_mem_cons, List.not_mem_nil, false_imp_iff, implies_true, and_true] at hw'; simp only [List.getElem_toArray, List.getElem_cons_succ, List.getElem_cons_zero]; go_simp; first | with_reducible rfl | (simp (disch := omega) only [if_pos, if_neg, Result.andThen_ok]; try with_reducible rfl) | skip)); try simp only [List.getElem_toArray, List.getElem_cons_succ, List.getElem_cons_zero, Act.put, List.setIfInBounds_toArray, List.set_cons_zero, List.set_cons_succ]
  refine planE_eff rfl (by rfl) (fun K hK => ?_)
  go_simp
  refine (cloneMap m es0 clock wq hmq).mono ?_
  rintro e w2 ⟨rfl, hw2⟩
  have hb2 : Below wq.heap.size wq w2 := by rw [hw2]; exact (Below.refl _ _).alloc (Nat.le_refl _) _
  have hm2 : MapAt linkV w2 wq.heap.size es := by rw [hw2]; exact hq.map.cloned hmq
  have h2 := hq.below hb2
  have hB2 := hbq.trans (hb2.mono hbq.size)
  obtain ⟨m', hm'⟩ : ∃ m', m' = wq.heap.size := ⟨_, rfl⟩
  rw [← hm'] at hm2 hsz ⊢
  clear c1 c2 hq hmq hbq hb2 hw2 hm'
  have c2 := h2.blk.cell 2 rfl
  refine hK _ _ (by simp [owed, left] <;> (and_intros <;> first | trivial | assumption)) ?_
  clear hK K
  try simp only [List.getElem_toArray, List.getElem_cons_succ, List.getElem_cons_zero, Act.put, List.setIfInBounds_toArray, List.set_cons_zero, List.set_cons_succ]
  iterate 1 (refine planE_pure (v := ?_) rfl (by rfl) (fun w' => ?_) ?_; rotate_left; (focus (simp only [List.getElem_toArray, List.getElem_cons_succ, List.getElem_cons_zero]; go_simp; first | with_reducible rfl | (simp (disch := omega) only [if_pos, if_neg, Result.andThen_ok]; try with_reducible rfl) | skip)); try simp only [List.getElem_toArray, List.getElem_cons_succ, List.getElem_cons_zero, Act.put, List.setIfInBounds_toArray, List.set_cons_zero, List.set_cons_succ])
  refine planE_eff rfl (by rfl) (fun K hK => ?_)
  go_simp
  have hb3 : Below w2.heap.size w2 (w2.alloc (.cells #[.slice none 0 0, .map (some m'), .int .i64 room] 54)) := (Below.refl _ _).alloc (Nat.le_refl _) _
  have hG3 := Blk.new w2 #[.slice none 0 0, .map (some m'), .int .i64 room] 54
  have hm3 := hm2.below hb3
  have h3 := h2.below hb3
  have hB3 := hB2.trans (hb3.mono hB2.size)
  obtain ⟨g', hg'⟩ : ∃ g', g' = w2.heap.size := ⟨_, rfl⟩
  have hgs : w.heap.size ≤ g' := by rw [hg']; exact hB2.size
  rw [← hg'] at hG3 ⊢
  have HN : Hid (PostR (w2.alloc (.cells #[.slice none 0 0, .map (some m'), .int .i64 room] 54)) g' [] none 0 m' es room) := Lib.hid ⟨hG3, OR.nil _ _ _ _, by simp, hm3, h3.yes, by simp; omega, hl.2⟩
  generalize w2.alloc (.cells #[.slice none 0 0, .map (some m'), .int .i64 room] 54) = w3 at *
  clear c2 hm2 h2 hB2 hb3 hG3 hm3 hg'
  have c2 := h3.blk.cell 2 rfl
  refine hK _ _ (by simp [owed, left] <;> (and_intros <;> first | trivial | assumption)) ?_
  clear hK K
  try simp only [List.getElem_toArray, List.getElem_cons_succ, List.getElem_cons_zero, Act.put, List.setIfInBounds_toArray, List.set_cons_zero, List.set_cons_succ]
  iterate 1 (refine planE_pure (v := ?_) rfl (by rfl) (fun w' => ?_) ?_; rotate_left; (focus (simp only [List.getElem_toArray, List.getElem_cons_succ, List.getElem_cons_zero]; go_simp; first | with_reducible rfl | (simp (disch := omega) only [if_pos, if_neg, Result.andThen_ok]; try with_reducible rfl) | skip)); try simp only [List.getElem_toArray, List.getElem_cons_succ, List.getElem_cons_zero, Act.put, List.setIfInBounds_toArray, List.set_cons_zero, List.set_cons_succ])
  refine planE_end ?_
  have c0 := h3.blk.cell 0 rfl
  clear c2 HMB
  go_wp2_with fail
  go_loopw [24] (fun i wr => ∃ (k : Nat) (Rn : List Ltr) (An : Option Addr) (cn : Nat), k ≤ R.length ∧ i = .int .i64 (k : Int) ∧ Hid (Rn.map Ltr.val = (R.take k).map Ltr.val) ∧ PostR wr g' Rn An cn m' es room ∧ Fresh w.heap.size g' Rn An m' ∧ Below w.heap.size w wr)
    (fun i _ => R.length - (intOf i).toNat)
  case atStart => exact ⟨0, [], none, 0, Nat.zero_le _, rfl, Lib.hid (by simp), HN.out, ⟨hgs, hsz, by simp, by simp⟩, hB3⟩
  case round =>
    obtain ⟨k, Rn, An, cn, hk, rfl, hval, hn, hfr, hB⟩ := hrel
    have hold := H.out.below hB
    clear c0 HN hB3 h3
    by_cases hlt : k < R.length
    · obtain ⟨b, off, rfl, hbl, hc⟩ := hold.row.rs.row (i := k) (by simpa using hlt)
      have d0 := hc 0 (.int .i64 R[k].f) (by simp [Ltr.cells])
      have d1 := hc 1 (.int .i64 R[k].t) (by simp [Ltr.cells])
      have d2 := hc 2 (.slice R[k].A R[k].d.length R[k].c) (by simp [Ltr.cells])
      rw [Nat.add_zero] at d0
      have hDk := (hold.data _ (List.getElem_mem hlt)).1.rb
      have hdk := (hold.data _ (List.getElem_mem hlt)).2
      have hvk : (R.take (k + 1)).map Ltr.val = (R.take k).map Ltr.val ++ [(R[k].f, R[k].t, R[k].d)] := by
        rw [List.take_succ_eq_append_getElem hlt, List.map_append]; rfl
      have hnl : Rn.length = k := by have := congrArg List.length hval.out; simpa using this.trans (by simp; omega)
      have HVK := Lib.hid hvk
      have hnl1 : Rn.length ≤ k := by omega
      have hnl2 : k ≤ Rn.length := by omega
      generalize R[k].f = f at *
      generalize R[k].t = t at *
      generalize R[k].A = D at *
      generalize R[k].c = c at *
      generalize R[k].d = d at *
      have hd : d.length ≤ 65536 := hdk
      have hb1 : Below wr.heap.size wr (wr.alloc (.cells #[.int .i64 f, .int .i64 t, .slice D d.length c] 59)) := (Below.refl _ _).alloc (Nat.le_refl _) _
      have hX := Blk.new wr #[.int .i64 f, .int .i64 t, .slice D d.length c] 59
      have hAf : ∀ b, An.map (·.block) = some b → 0 ≤ b ∧ b < wr.heap.size := fun b hb => hn.row.blk_lt b hb
      have hglt := hn.blk.lt
      obtain ⟨xb, hxb⟩ : ∃ xb, xb = wr.heap.size := ⟨_, rfl⟩
      have hs1 : xb + 1 ≤ (wr.alloc (.cells #[.int .i64 f, .int .i64 t, .slice D d.length c] 59)).heap.size := by rw [hxb]; simp
      have hBw := hB.size
      rw [← hxb] at hX hAf hglt hBw
      have HXB := Lib.hid hxb
      have H1 := Lib.hid (hn.below hb1)
      have hB1 := hB.trans (hb1.mono hB.size)
      have hD1 := hDk.below hb1
      have hm1 : Mods (PF g' An) (wr.alloc (.cells #[.int .i64 f, .int .i64 t, .slice D d.length c] 59)) (wr.alloc (.cells #[.int .i64 f, .int .i64 t, .slice D d.length c] 59)) := Mods.refl _ _
      have hr : (Rn.length : Int) < room := by omega
      clear hc hvk hDk hdk hb1 hxb hn hold hB hnl
      go_wp2_with fail
      rw [← HXB.out]
      generalize wr.alloc (.cells #[.int .i64 f, .int .i64 t, .slice D d.length c] 59) = w1 at *
      clear d0 d1 d2
      refine wp_region_planE_gen (by kernel_rfl) [(0, none), (1, none), (2, none), (3, none), (4, none), (5, none), (6, none), (7, none), (8, none), (9, some [8]), (10, none), (11, some [10]), (12, some [4]), (13, none), (14, none), (15, some [0, 1, 2, 3, 4, 5, 6, 7, 8, 10, 14])] (by kernel_rfl) (by kernel_rfl) (by decide) ?_
      intro wq hwq
      have hb1q : Below w1.heap.size w1 wq := by rw [hwq]; exact (Below.refl _ _).drew
      have hq := H1.out.below hb1q
      have hXq := hX.kept hb1q
      have hDq := hD1.below hb1q
      have hmq := hm1.below hb1q
      have hsq : xb + 1 ≤ wq.heap.size := Nat.le_trans hs1 hb1q.size
      have c0 := hq.blk.cell 0 rfl
      have x0 := hXq.cell 0 rfl
      have x1 := hXq.cell 1 rfl
      have x2 := hXq.cell 2 rfl
      clear H1 hX hD1 hm1 hs1 hwq hb1q
      iterate 4 (refine planE_pure (v := ?_) rfl (by rfl) (fun w' => ?_) ?_; rotate_left; (focus (simp only [List.getElem_toArray, List.getElem_cons_succ, List.getElem_cons_zero]; go_simp; first | with_reducible rfl | (simp (disch := omega) only [if_pos, if_neg, Result.andThen_ok]; try with_reducible rfl) | skip)); try simp only [List.getElem_toArray, List.getElem_cons_succ, List.getElem_cons_zero, Act.put, List.setIfInBounds_toArray, List.set_cons_zero, List.set_cons_succ])
      refine planE_cells (v := ?_) [(⟨g', 0, none⟩, .slice An Rn.length cn)] (by simp; and_intros <;> assumption) rfl (by rfl) (fun w' hw' => ?_) ?_; rotate_left; (focus (simp only [List.forall_mem_cons, List.not_mem_nil, false_imp_iff, implies_true, and_true] at hw'; simp only [List.getElem_toArray, List.getElem_cons_succ, List.getElem_cons_zero]; go_simp; first | with_reducible rfl | (simp (disch := omega) only [if_pos, if_neg, Result.andThen_ok]; try with_reducible rfl) | skip)); try simp only [List.getElem_toArray, List.getElem_cons_succ, List.getElem_cons_zero, Act.put, List.setIfInBounds_toArray, List.set_cons_zero, List.set_cons_succ]
      iterate 1 (refine planE_pure (v := ?_) rfl (by rfl) (fun w' => ?_) ?_; rotate_left; (focus (simp only [List.getElem_toArray, List.getElem_cons_succ, List.getElem_cons_zero]; go_simp; first | with_reducible rfl | (simp (disch := omega) only [if_pos, if_neg, Result.andThen_ok]; try with_reducible rfl) | skip)); try simp only [List.getElem_toArray, List.getElem_cons_succ, List.getElem_cons_zero, Act.put, List.setIfInBounds_toArray, List.set_cons_zero, List.set_cons_succ])
      refine planE_cells (v := ?_) [(⟨xb, 0, none⟩, .int .i64 f), (⟨xb, 1, none⟩, .int .i64 t)] (by simp; and_intros <;> assumption) rfl (by rfl) (fun w' hw' => ?_) ?_; rotate_left; (focus (simp only [List.forall_mem_cons, List.not_mem_nil, false_imp_iff, implies_true, and_true] at hw'; simp only [List.getElem_toArray, List.getElem_cons_succ, List.getElem_cons_zero]; go_simp; first | with_reducible rfl | (simp (disch := omega) only [if_pos, if_neg, Result.andThen_ok]; try with_reducible rfl) | skip)); try simp only [List.getElem_toArray, List.getElem_cons_succ, List.getElem_cons_zero, Act.put, List.setIfInBounds_toArray, List.set_cons_zero, List.set_cons_succ]
      iterate 1 (refine planE_pure (v := ?_) rfl (by rfl) (fun w' => ?_) ?_; rotate_left; (focus (simp only [List.getElem_toArray, List.getElem_cons_succ, List.getElem_cons_zero]; go_simp; first | with_reducible rfl | (simp (disch := omega) only [if_pos, if_neg, Result.andThen_ok]; try with_reducible rfl) | skip)); try simp only [List.getElem_toArray, List.getElem_cons_succ, List.getElem_cons_zero, Act.put, List.setIfInBounds_toArray, List.set_cons_zero, List.set_cons_succ])
      refine planE_cells (v := ?_) [(⟨xb, 2, none⟩, .slice D d.length c)] (by simp; and_intros <;> assumption) rfl (by rfl) (fun w' hw' => ?_) ?_; rotate_left; (focus (simp only [List.forall_mem_cons, List.not_mem_nil, false_imp_iff, implies_true, and_true] at hw'; simp only [List.getElem_toArray, List.getElem_cons_succ, List.getElem_cons_zero]; go_simp; first | with_reducible rfl | (simp (disch := omega) only [if_pos, if_neg, Result.andThen_ok]; try with_reducible rfl) | skip)); try simp only [List.getElem_toArray, List.getElem_cons_succ, List.getElem_cons_zero, Act.put, List.setIfInBounds_toArray, List.set_cons_zero, List.set_cons_succ]
      refine planE_eff rfl (by rfl) (fun K hK => ?_)
      go_simp
      refine (cloneB D c d wq hDq (by omega)).mono ?_
      rintro e w2 ⟨d', D', c', hd', hd1, hd2, rfl, ho2, hb2⟩
      have h2 := hq.below hb2
      have hX2 := hXq.kept hb2
      have hm2 := hmq.below hb2
      have hs2 := Nat.le_trans hsq hb2.size
      have hDf : ∀ b, D'.map (·.block) = some b → xb + 1 ≤ b ∧ b < w2.heap.size := fun b hb => by have := ho2.blk_lt b hb; omega
      have HDF := Lib.hid hDf
      have hr2 := ho2.base_le (Nat.zero_le _)
      clear c0 x0 x1 x2 hq hXq hDq hmq hsq hb2 hDf ho2
      have c0 := h2.blk.cell 0 rfl
      have x0 := hX2.cell 0 rfl
      have x1 := hX2.cell 1 rfl
      refine hK _ _ (by simp [owed, left] <;> (and_intros <;> first | trivial | assumption)) ?_
      clear hK K
      try simp only [List.getElem_toArray, List.getElem_cons_succ, List.getElem_cons_zero, Act.put, List.setIfInBounds_toArray, List.set_cons_zero, List.set_cons_succ]
      iterate 1 (refine planE_pure (v := ?_) rfl (by rfl) (fun w' => ?_) ?_; rotate_left; (focus (simp only [List.getElem_toArray, List.getElem_cons_succ, List.getElem_cons_zero]; go_simp; first | with_reducible rfl | (simp (disch := omega) only [if_pos, if_neg, Result.andThen_ok]; try with_reducible rfl) | skip)); try simp only [List.getElem_toArray, List.getElem_cons_succ, List.getElem_cons_zero, Act.put, List.setIfInBounds_toArray, List.set_cons_zero, List.set_cons_succ])
      refine planE_eff rfl (by rfl) (fun K hK => ?_)
      go_simp
      obtain ⟨lb, hlb⟩ : ∃ lb, lb = w2.heap.size := ⟨_, rfl⟩
      have hb3 : Below w2.heap.size w2 (w2.alloc (.cells #[.int .i64 f, .int .i64 t, .slice D' d'.length c'] 59)) := (Below.refl _ _).alloc (Nat.le_refl _) _
      have hL3 := Blk.new w2 #[.int .i64 f, .int .i64 t, .slice D' d'.length c'] 59
      have h3 := h2.below hb3
      have hX3 := hX2.kept hb3
      have hm3 := hm2.below hb3
      have hs3 := Nat.le_trans hs2 hb3.size
      have hr3 := hr2.below hb3
      rw [← hlb] at hL3 ⊢
      generalize w2.alloc (.cells #[.int .i64 f, .int .i64 t, .slice D' d'.length c'] 59) = w3 at *
      clear c0 x0 x1 h2 hX2 hm2 hr2 hb3
      have c0 := h3.blk.cell 0 rfl
      have x0 := hX3.cell 0 rfl
      have x1 := hX3.cell 1 rfl
      refine hK _ _ (by simp [owed, left] <;> (and_intros <;> first | trivial | assumption)) ?_
      clear hK K
      try simp only [List.getElem_toArray, List.getElem_cons_succ, List.getElem_cons_zero, Act.put, List.setIfInBounds_toArray, List.set_cons_zero, List.set_cons_succ]
      refine planE_eff rfl (by rfl) (fun K hK => ?_)
      obtain ⟨i0, hi0, hz0, hz1, hz2⟩ := info_parts letter_info
      refine op_appendS w3 (.tmp 32) (.tmp 39) 52 59 (by rfl) Try.underlying52 hi0 hz0 hz1 hz2 rfl (by decide) 0 An (some ⟨lb, 0, none⟩) cn 1 (Rn.map Ltr.cells) [[.int .i64 f, .int .i64 t, .slice D' d'.length c']] (by simp; rfl) (by rfl) h3.row (RS.lit hL3) (by simp) (by simp [Value.oneCell']) (by simp; omega) (by simp; omega) (Nat.zero_le _) ?_
      intro ys A' cap' w4 hys hy1 hy2 hrow4 hg4 hA4
      have hX4 := hX3.grown hg4 (fun e => by have := (hAf _ e).2; omega)
      have hk4 := h3.blk.grown hg4 h3.ne_row
      have hmap4 := h3.map.grown hg4 h3.map_ne_row
      have hd4 : ∀ r ∈ Rn, OB w4 0 r.A r.c r.d ∧ r.d.length ≤ 65536 := fun r hr => ⟨(h3.data r hr).1.grown_row hg4 ((h3.data r hr).1.ne_row h3.row (by decide)), (h3.data r hr).2⟩
      have hn4 : OB w4 0 D' c' d' := hr3.grown_row hg4 (hr3.ne_row h3.row (by decide))
      have hm4 : Mods (PF g' An) w1 w4 := hm3.then (.of_grown hg4 fun k hk => .inr hk)
      have hA4g : A'.map (·.block) ≠ some g' := by
        rcases hA4 with e | e
        · rw [e]; exact h3.ne_row
        · rw [e]; have := h3.blk.lt; intro e'; injection e' with e'; omega
      have hA4f : A'.map (·.block) = An.map (·.block) ∨ ∀ b, A'.map (·.block) = some b → w1.heap.size ≤ b := by
        rcases hA4 with e | e
        · exact .inl e
        · refine .inr fun b hb => ?_
          rw [e] at hb
          injection hb with hb
          have := hm3.size
          omega
      have HY := Lib.hid hys.out
      have hyes := h3.yes
      have hmg := h3.map_ne_var
      clear c0 x0 x1 h3 hX3 hm3 hr3 hg4 hA4 hL3 hys
      have c0 := hk4.cell 0 rfl
      have f0 := hk4.free 0
      have x0 := hX4.cell 0 rfl
      have x1 := hX4.cell 1 rfl
      refine hK _ _ (by simp [owed, left] <;> (and_intros <;> first | trivial | assumption)) ?_
      clear hK K
      try simp only [List.getElem_toArray, List.getElem_cons_succ, List.getElem_cons_zero, Act.put, List.setIfInBounds_toArray, List.set_cons_zero, List.set_cons_succ]
      iterate 2 (refine planE_pure (v := ?_) rfl (by rfl) (fun w' => ?_) ?_; rotate_left; (focus (simp only [List.getElem_toArray, List.getElem_cons_succ, List.getElem_cons_zero]; go_simp; first | with_reducible rfl | (simp (disch := omega) only [if_pos, if_neg, Result.andThen_ok]; try with_reducible rfl) | skip)); try simp only [List.getElem_toArray, List.getElem_cons_succ, List.getElem_cons_zero, Act.put, List.setIfInBounds_toArray, List.set_cons_zero, List.set_cons_succ])
      refine planE_eff rfl (by rfl) (fun K hK => ?_)
      go_simp
      skip
      refine hK _ _ (by simp [owed, left] <;> (and_intros <;> first | trivial | assumption)) ?_
      clear hK K
      try simp only [List.getElem_toArray, List.getElem_cons_succ, List.getElem_cons_zero, Act.put, List.setIfInBounds_toArray, List.set_cons_zero, List.set_cons_succ]
      refine planE_end ?_
      have hk5 := hk4.setCell 0 (.slice A' ys.length cap')
      rw [show (#[.slice An Rn.length cn, .map (some m'), .int .i64 room] : Array Value).setIfInBounds 0 (.slice A' ys.length cap') = #[.slice A' ys.length cap', .map (some m'), .int .i64 room] from rfl] at hk5
      have hrow5 := hrow4.setCell_ne (p := ⟨g', 0, none⟩) hA4g (.slice A' ys.length cap')
      have hmap5 := hmap4.setCell (p := ⟨g', 0, none⟩) hmg (.slice A' ys.length cap')
      have hd5 : ∀ r ∈ Rn, OB (w4.setCell ⟨g', 0, none⟩ (.slice A' ys.length cap')) 0 r.A r.c r.d ∧ r.d.length ≤ 65536 := fun r hr => ⟨(hd4 r hr).1.setCell_ne (p := ⟨g', 0, none⟩) ((hd4 r hr).1.ne_var hk4 (by decide)) _, (hd4 r hr).2⟩
      have hn5 := hn4.setCell_ne (p := ⟨g', 0, none⟩) (hn4.ne_var hk4 (by decide)) (.slice A' ys.length cap')
      have hm5 := hm4.setCell ⟨g', 0, none⟩ (.inl (.inl rfl)) (.slice A' ys.length cap')
      have hyl : ys.length = Rn.length + 1 := by rw [HY.out]; simp
      have HP : Hid (PostR (w4.setCell ⟨g', 0, none⟩ (.slice A' ys.length cap')) g' (Rn ++ [⟨f, t, D', c', d'⟩]) A' cap' m' es room) := Lib.hid ⟨by rw [List.length_append, List.length_singleton, ← hyl]; exact hk5, by
          rw [List.map_append, show List.map Ltr.cells [⟨f, t, D', c', d'⟩] = [[.int .i64 f, .int .i64 t, .slice D' d'.length c']] from rfl, ← HY.out]; exact hrow5, fun r hr => by
          rcases List.mem_append.1 hr with hr | hr
          · exact hd5 r hr
          · rw [List.mem_singleton] at hr
            subst hr
            exact ⟨hn5, by show d'.length ≤ 65536; omega⟩, hmap5, hyes, by rw [List.length_append, List.length_singleton]; omega, hl.2⟩
      have HM := Lib.hid hm5
      generalize w4.setCell ⟨g', 0, none⟩ (.slice A' ys.length cap') = w5 at *
      clear hk5 hrow5 hmap5 hd5 hn5 hm5 hyl hk4 hX4 hmap4 hd4 hn4 hm4 c0 f0 x0 x1 hrow4 HY
      have hB5 := HM.out.old hB1 hB1.size (fun i _ hi => by
        rcases hi with rfl | hi
        · exact hfr.1
        · exact hfr.2.2.1 i hi)
      have hfr5 : Fresh w.heap.size g' (Rn ++ [⟨f, t, D', c', d'⟩]) A' m' := ⟨hfr.1, hfr.2.1, fun b hb => by
          rcases hA4f with e | e
          · rw [e] at hb; exact hfr.2.2.1 b hb
          · exact Nat.le_trans hB1.size (e b hb), fun r hr b hb => by
          rcases List.mem_append.1 hr with hr | hr
          · exact hfr.2.2.2 r hr b hb
          · rw [List.mem_singleton] at hr
            subst hr
            have := (HDF.out b hb).1
            omega⟩
      have hv5 : (Rn ++ [(⟨f, t, D', c', d'⟩ : Ltr)]).map Ltr.val = (R.take (k + 1)).map Ltr.val := by
        rw [List.map_append, hval.out, HVK.out, ← hd'.out]; rfl
      have HV5 := Lib.hid hv5
      clear hv5 HVK hval
      go_wp2_with fail
      go_roundw
      case rel => exact ⟨k + 1, _, A', cap', by omega, by go_num, HV5, HP.out, hfr5, hB5⟩
      case measure => simp [intOf]; omega
    · obtain rfl : k = R.length := by omega
      rw [List.take_length] at hval
      clear hold
      go_wp2_with fail
      go_ret
      exact ⟨g', Rn, An, cn, m', rfl, hval.out, hn, hfr, hB⟩
end
end Go.Proofs.Ytihmnkkhccihpaa
