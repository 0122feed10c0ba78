/- Contracts of post's methods: at, put, Send. -/
import Derived.Test.YtihmnkkhccihpaaPostM
namespace Go.Proofs.Ytihmnkkhccihpaa
open Go.RowKit

theorem letter_size : (Try.prog.info? 59).map (·.size) = some 3 := by kernel_rfl

set_option maxRecDepth 20000 in
set_option maxHeartbeats 1000000 in
theorem postAt_nil (i : Int) (w : World) : Calls Try.prog 24 #[.pointer none, .int .i64 i] w fun e w' => e = .returned (.tuple #[.agg #[.int .i64 0, .int .i64 0, .slice none 0 0], .int .i64 1]) ∧ Below w.heap.size w w' := by
  have hb := (Below.refl w.heap.size w).alloc (Nat.le_refl _) (.cells #[.int .i64 0, .int .i64 0, .slice none 0 0] 59)
  go_enter Try.func24, Try.ntmps24
  go_wp2_with fail
  exact bodyPost_ret (v := .tuple #[.agg #[.int .i64 0, .int .i64 0, .slice none 0 0], .int .i64 1]) (by simp [results, Try.results24, go_sem]) rfl ⟨rfl, hb⟩

set_option maxRecDepth 20000 in
set_option maxHeartbeats 1000000 in
theorem postAt_out {g : Nat} {R : List Ltr} {A : Option Addr} {cap m : Nat} {es : List ((Int × Int) × Value)} {room : Int} (i : Int) (w : World) (h : PostR w g R A cap m es room) (hi : i < 0 ∨ (R.length : Int) ≤ i) (hi2 : -9223372036854775808 ≤ i ∧ i ≤ 9223372036854775807) :
    Calls Try.prog 24 #[.pointer (some ⟨g, 0, none⟩), .int .i64 i] w fun e w' => e = .returned (.tuple #[.agg #[.int .i64 0, .int .i64 0, .slice none 0 0], .int .i64 8]) ∧ Below w.heap.size w w' := by
  have hb := (Below.refl w.heap.size w).alloc (Nat.le_refl _) (.cells #[.int .i64 0, .int .i64 0, .slice none 0 0] 59)
  have hB := h.blk.kept hb
  have c0 := hB.cell 0 rfl
  have hl := h.fits
  have HB := Lib.hid hb
  clear h hB hb
  by_cases h0 : i < 0
  · clear c0
    go_enter Try.func24, Try.ntmps24
    go_wp2_with fail
    exact bodyPost_ret (v := .tuple #[.agg #[.int .i64 0, .int .i64 0, .slice none 0 0], .int .i64 8]) (by simp [results, Try.results24, go_sem]) rfl ⟨rfl, HB.out⟩
  · have h1 : (R.length : Int) ≤ i := by omega
    go_enter Try.func24, Try.ntmps24
    go_wp2_with fail
    exact bodyPost_ret (v := .tuple #[.agg #[.int .i64 0, .int .i64 0, .slice none 0 0], .int .i64 8]) (by simp [results, Try.results24, go_sem]) rfl ⟨rfl, HB.out⟩

set_option maxRecDepth 20000 in
set_option maxHeartbeats 1000000 in
theorem postAt_in {g : Nat} {R : List Ltr} {A : Option Addr} {cap m : Nat} {es : List ((Int × Int) × Value)} {room : Int} (i : Nat) (w : World) (h : PostR w g R A cap m es room) (hi : i < R.length) :
    Calls Try.prog 24 #[.pointer (some ⟨g, 0, none⟩), .int .i64 (i : Int)] w fun e w' => e = .returned (.tuple #[.agg #[.int .i64 R[i].f, .int .i64 R[i].t, .slice R[i].A R[i].d.length R[i].c], .int .i64 0]) ∧ Below w.heap.size w w' := by
  have hb := (Below.refl w.heap.size w).alloc (Nat.le_refl _) (.cells #[.int .i64 0, .int .i64 0, .slice none 0 0] 59)
  have hB := h.blk.kept hb
  have c0 := hB.cell 0 rfl
  have hl := h.fits
  obtain ⟨b, off, rfl, hlt, hc⟩ := (h.row.below hb).rs.row (i := i) (by simpa using hi)
  have d0 := hc 0 (.int .i64 R[i].f) (by simp [Ltr.cells])
  have d1 := hc 1 (.int .i64 R[i].t) (by simp [Ltr.cells])
  have d2 := hc 2 (.slice R[i].A R[i].d.length R[i].c) (by simp [Ltr.cells])
  rw [Nat.add_zero] at d0
  have HB := Lib.hid hb
  generalize R[i].f = vf at *
  generalize R[i].t = vt at *
  generalize R[i].A = vA at *
  generalize R[i].c = vc at *
  generalize R[i].d.length = vn at *
  have h0 : ¬ (i : Int) < 0 := by omega
  have h1 : i < R.length := hi
  have hbn := Blk.new w #[.int .i64 0, .int .i64 0, .slice none 0 0] 59
  clear h hB hb hc hlt
  go_enter Try.func24, Try.ntmps24
  go_wp2_with (refine wpList_store_row rfl 59 (.tmp 4) (.tmp 29) rfl w.heap.size _ rfl rfl _ _ hbn letter_size rfl (by simp [Value.oneCell']) ?_)
  have hB3 := hbn.setRow #[.int .i64 vf, .int .i64 vt, .slice vA vn vc]
  have h30 := hB3.cell 0 rfl
  have h31 := hB3.cell 1 rfl
  have h32 := hB3.cell 2 rfl
  exact bodyPost_ret (v := .tuple #[.agg #[.int .i64 vf, .int .i64 vt, .slice vA vn vc], .int .i64 0]) (by simp [results, Try.results24, go_sem, h30, h31, h32]) rfl ⟨rfl, below_setRow HB.out (Nat.le_refl _) _⟩

/-- What a call may change of a post: its variable, and the row of its letters. -/
def PF (g : Nat) (A : Option Addr) (k : Nat) : Prop := k = g ∨ A.map (·.block) = some k

set_option maxRecDepth 20000 in
set_option maxHeartbeats 1000000 in
theorem postPut_full {g : Nat} {R : List Ltr} {A : Option Addr} {cap m : Nat} {es : List ((Int × Int) × Value)} {room : Int} (f t : Int) (D : Option Addr) (c n : Nat) (w : World) (h : PostR w g R A cap m es room) (hr : room ≤ (R.length : Int)) :
    Calls Try.prog 22 #[.pointer (some ⟨g, 0, none⟩), .agg #[.int .i64 f, .int .i64 t, .slice D n c]] w fun e w' => e = .returned (.int .i64 10) ∧ Below w.heap.size w w' := by
  have hb := (Below.refl w.heap.size w).alloc (Nat.le_refl _) (.cells #[.int .i64 f, .int .i64 t, .slice D n c] 59)
  have hB := h.blk.kept hb
  have c0 := hB.cell 0 rfl
  have c2 := hB.cell 2 rfl
  have HB := Lib.hid hb
  have hl := h.fits
  clear h hB hb
  go_enter Try.func22, Try.ntmps22
  go_wp2_with fail
  go_quiet (fail)
  go_wp2_with fail
  go_ret
  exact ⟨rfl, below_drewN HB.out _⟩

def PutE (g : Nat) (R : List Ltr) (A : Option Addr) (m : Nat) (es : List ((Int × Int) × Value)) (room f t : Int) (d : List UInt8) (w : World) (e : Ending) (w' : World) : Prop :=
  ∃ (A' : Option Addr) (cap' : Nat) (D' : Option Addr) (c' : Nat) (d' : List UInt8), e = .returned (.int .i64 0) ∧ Hid (d' = d) ∧ PostR w' g (R ++ [⟨f, t, D', c', d'⟩]) A' cap' m es room ∧ Mods (PF g A) w w' ∧
    (∀ b, D'.map (·.block) = some b → w.heap.size ≤ b) ∧ (A'.map (·.block) = A.map (·.block) ∨ ∀ b, A'.map (·.block) = some b → w.heap.size ≤ b)

set_option maxRecDepth 20000 in
set_option maxHeartbeats 4000000 in
theorem postPut {g : Nat} {R : List Ltr} {A : Option Addr} {cap m : Nat} {es : List ((Int × Int) × Value)} {room : Int} (f t : Int) (D : Option Addr) (c : Nat) (d : List UInt8) (w : World) (h : PostR w g R A cap m es room) (hr : (R.length : Int) < room) (hD : RB w D d) (hd : d.length ≤ 65536) :
    Calls Try.prog 22 #[.pointer (some ⟨g, 0, none⟩), .agg #[.int .i64 f, .int .i64 t, .slice D d.length c]] w (PutE g R A m es room f t d w) := by
  have hb := (Below.refl w.heap.size w).alloc (Nat.le_refl _) (.cells #[.int .i64 f, .int .i64 t, .slice D d.length c] 59)
  have hX := Blk.new w #[.int .i64 f, .int .i64 t, .slice D d.length c] 59
  have h1 := h.below hb
  have hD1 := hD.below hb
  have hglt := h.blk.lt
  have hAlt := h.row.blk_lt
  have hm1 : Mods (PF g A) w (w.alloc (.cells #[.int .i64 f, .int .i64 t, .slice D d.length c] 59)) := .of_below hb
  have HAL := Lib.hid hAlt
  obtain ⟨xb, hxb⟩ : ∃ xb, xb = w.heap.size := ⟨_, rfl⟩
  rw [← hxb] at hX hglt
  have HXB := Lib.hid hxb
  have c0 := h1.blk.cell 0 rfl
  have c2 := h1.blk.cell 2 rfl
  have hl := h.fits
  have hs1 : xb + 1 ≤ (w.alloc (.cells #[.int .i64 f, .int .i64 t, .slice D d.length c] 59)).heap.size := by rw [hxb]; simp
  clear hb h hD hAlt hxb
  have H1 := Lib.hid h1
  clear h1
  go_enter Try.func22, Try.ntmps22
  go_wp2_with fail
  rw [← HXB.out]
  generalize w.alloc (.cells #[.int .i64 f, .int .i64 t, .slice D d.length c] 59) = w1 at *
  go_quiet (fail)
  go_wp2_with fail
  clear c0 c2
  refine wp_region_planE_gen (by kernel_rfl) [(0, none), (1, none), (2, none), (3, none), (4, none), (5, none), (6, none), (7, none), (8, none), (9, some [8]), (10, none), (11, some [10]), (12, some [4]), (13, none), (14, none), (15, some [0, 1, 2, 3, 4, 5, 6, 7, 8, 10, 14])] (by kernel_rfl) (by kernel_rfl) (by decide) ?_
  intro wq hwq
  have hqh : wq.heap = w1.heap := by rw [hwq]; rfl
  have hb1q : Below w1.heap.size w1 wq := by rw [hwq]; exact (below_drewN (Below.refl _ _) _).drew
  have hq := H1.out.below hb1q
  have hXq := hX.kept hb1q
  have hDq := hD1.below hb1q
  have hmq := hm1.below hb1q
  have hsq : xb + 1 ≤ wq.heap.size := Nat.le_trans hs1 hb1q.size
  have c0 := hq.blk.cell 0 rfl
  have x0 := hXq.cell 0 rfl
  have x1 := hXq.cell 1 rfl
  have x2 := hXq.cell 2 rfl
  clear H1 hX hD1 hm1 hs1 hwq hqh hb1q
  iterate 4 (refine planE_pure (v := ?_) rfl (by rfl) (fun w' => ?_) ?_; rotate_left; (focus (simp only [List.getElem_toArray, List.getElem_cons_succ, List.getElem_cons_zero]; go_simp; first | with_reducible rfl | (simp (disch := omega) only [if_pos, if_neg, Result.andThen_ok]; try with_reducible rfl) | skip)); try simp only [List.getElem_toArray, List.getElem_cons_succ, List.getElem_cons_zero, Act.put, List.setIfInBounds_toArray, List.set_cons_zero, List.set_cons_succ])
  refine planE_cells (v := ?_) [(⟨g, 0, none⟩, .slice A R.length cap)] (by simp; and_intros <;> assumption) rfl (by rfl) (fun w' hw' => ?_) ?_; rotate_left; (focus (simp only [List.forall_mem_cons, List.not_mem_nil, false_imp_iff, implies_true, and_true] at hw'; simp only [List.getElem_toArray, List.getElem_cons_succ, List.getElem_cons_zero]; go_simp; first | with_reducible rfl | (simp (disch := omega) only [if_pos, if_neg, Result.andThen_ok]; try with_reducible rfl) | skip)); try simp only [List.getElem_toArray, List.getElem_cons_succ, List.getElem_cons_zero, Act.put, List.setIfInBounds_toArray, List.set_cons_zero, List.set_cons_succ]
  iterate 1 (refine planE_pure (v := ?_) rfl (by rfl) (fun w' => ?_) ?_; rotate_left; (focus (simp only [List.getElem_toArray, List.getElem_cons_succ, List.getElem_cons_zero]; go_simp; first | with_reducible rfl | (simp (disch := omega) only [if_pos, if_neg, Result.andThen_ok]; try with_reducible rfl) | skip)); try simp only [List.getElem_toArray, List.getElem_cons_succ, List.getElem_cons_zero, Act.put, List.setIfInBounds_toArray, List.set_cons_zero, List.set_cons_succ])
  refine planE_cells (v := ?_) [(⟨xb, 0, none⟩, .int .i64 f), (⟨xb, 1, none⟩, .int .i64 t)] (by simp; and_intros <;> assumption) rfl (by rfl) (fun w' hw' => ?_) ?_; rotate_left; (focus (simp only [List.forall_mem_cons, List.not_mem_nil, false_imp_iff, implies_true, and_true] at hw'; simp only [List.getElem_toArray, List.getElem_cons_succ, List.getElem_cons_zero]; go_simp; first | with_reducible rfl | (simp (disch := omega) only [if_pos, if_neg, Result.andThen_ok]; try with_reducible rfl) | skip)); try simp only [List.getElem_toArray, List.getElem_cons_succ, List.getElem_cons_zero, Act.put, List.setIfInBounds_toArray, List.set_cons_zero, List.set_cons_succ]
  iterate 1 (refine planE_pure (v := ?_) rfl (by rfl) (fun w' => ?_) ?_; rotate_left; (focus (simp only [List.getElem_toArray, List.getElem_cons_succ, List.getElem_cons_zero]; go_simp; first | with_reducible rfl | (simp (disch := omega) only [if_pos, if_neg, Result.andThen_ok]; try with_reducible rfl) | skip)); try simp only [List.getElem_toArray, List.getElem_cons_succ, List.getElem_cons_zero, Act.put, List.setIfInBounds_toArray, List.set_cons_zero, List.set_cons_succ])
  refine planE_cells (v := ?_) [(⟨xb, 2, none⟩, .slice D d.length c)] (by simp; and_intros <;> assumption) rfl (by rfl) (fun w' hw' => ?_) ?_; rotate_left; (focus (simp only [List.forall_mem_cons, List.not_mem_nil, false_imp_iff, implies_true, and_true] at hw'; simp only [List.getElem_toArray, List.getElem_cons_succ, List.getElem_cons_zero]; go_simp; first | with_reducible rfl | (simp (disch := omega) only [if_pos, if_neg, Result.andThen_ok]; try with_reducible rfl) | skip)); try simp only [List.getElem_toArray, List.getElem_cons_succ, List.getElem_cons_zero, Act.put, List.setIfInBounds_toArray, List.set_cons_zero, List.set_cons_succ]
  refine planE_eff rfl (by rfl) (fun K hK => ?_)
  go_simp
  refine (cloneB D c d wq hDq (by omega)).mono ?_
  rintro e w2 ⟨d', D', c', hd', hd1, hd2, rfl, ho2, hb2⟩
  have h2 := hq.below hb2
  have hX2 := hXq.kept hb2
  have hm2 := hmq.below hb2
  have hs2 := Nat.le_trans hsq hb2.size
  have hDf : ∀ b, D'.map (·.block) = some b → xb + 1 ≤ b ∧ b < w2.heap.size := fun b hb => by have := ho2.blk_lt b hb; omega
  have HDF := Lib.hid hDf
  have hr2 := ho2.base_le (Nat.zero_le _)
  clear c0 x0 x1 x2 hq hXq hDq hmq hsq hb2 hDf ho2
  have c0 := h2.blk.cell 0 rfl
  have x0 := hX2.cell 0 rfl
  have x1 := hX2.cell 1 rfl
  refine hK _ _ (by simp [owed, left] <;> (and_intros <;> first | trivial | assumption)) ?_
  clear hK K
  try simp only [List.getElem_toArray, List.getElem_cons_succ, List.getElem_cons_zero, Act.put, List.setIfInBounds_toArray, List.set_cons_zero, List.set_cons_succ]
  iterate 1 (refine planE_pure (v := ?_) rfl (by rfl) (fun w' => ?_) ?_; rotate_left; (focus (simp only [List.getElem_toArray, List.getElem_cons_succ, List.getElem_cons_zero]; go_simp; first | with_reducible rfl | (simp (disch := omega) only [if_pos, if_neg, Result.andThen_ok]; try with_reducible rfl) | skip)); try simp only [List.getElem_toArray, List.getElem_cons_succ, List.getElem_cons_zero, Act.put, List.setIfInBounds_toArray, List.set_cons_zero, List.set_cons_succ])
  refine planE_eff rfl (by rfl) (fun K hK => ?_)
  go_simp
  obtain ⟨lb, hlb⟩ : ∃ lb, lb = w2.heap.size := ⟨_, rfl⟩
  have hb3 : Below w2.heap.size w2 (w2.alloc (.cells #[.int .i64 f, .int .i64 t, .slice D' d'.length c'] 59)) := (Below.refl _ _).alloc (Nat.le_refl _) _
  have hL3 := Blk.new w2 #[.int .i64 f, .int .i64 t, .slice D' d'.length c'] 59
  have h3 := h2.below hb3
  have hX3 := hX2.kept hb3
  have hm3 := hm2.below hb3
  have hs3 := Nat.le_trans hs2 hb3.size
  have hr3 := hr2.below hb3
  rw [← hlb] at hL3 ⊢
  generalize w2.alloc (.cells #[.int .i64 f, .int .i64 t, .slice D' d'.length c'] 59) = w3 at *
  clear c0 x0 x1 h2 hX2 hm2 hr2 hb3
  have c0 := h3.blk.cell 0 rfl
  have x0 := hX3.cell 0 rfl
  have x1 := hX3.cell 1 rfl
  refine hK _ _ (by simp [owed, left] <;> (and_intros <;> first | trivial | assumption)) ?_
  clear hK K
  try simp only [List.getElem_toArray, List.getElem_cons_succ, List.getElem_cons_zero, Act.put, List.setIfInBounds_toArray, List.set_cons_zero, List.set_cons_succ]
  refine planE_eff rfl (by rfl) (fun K hK => ?_)
  obtain ⟨i0, hi0, hz0, hz1, hz2⟩ := info_parts letter_info
  refine op_appendS w3 (.tmp 19) (.tmp 26) 52 59 (by rfl) Try.underlying52 hi0 hz0 hz1 hz2 rfl (by decide) 0 A (some ⟨lb, 0, none⟩) cap 1 (R.map Ltr.cells) [[.int .i64 f, .int .i64 t, .slice D' d'.length c']] (by simp; rfl) (by rfl) h3.row (RS.lit hL3) (by simp) (by simp [Value.oneCell']) (by simp; omega) (by simp; omega) (Nat.zero_le _) ?_
  intro ys A' cap' w4 hys hy1 hy2 hrow4 hg4 hA4
  have hX4 := hX3.grown hg4 (fun e => by have := (HAL.out _ e).2; have := HXB.out; omega)
  have hk4 := h3.blk.grown hg4 h3.ne_row
  have hmap4 := h3.map.grown hg4 h3.map_ne_row
  have hd4 : ∀ r ∈ R, OB w4 0 r.A r.c r.d ∧ r.d.length ≤ 65536 := fun r hr => ⟨(h3.data r hr).1.grown_row hg4 ((h3.data r hr).1.ne_row h3.row (by decide)), (h3.data r hr).2⟩
  have hn4 : OB w4 0 D' c' d' := hr3.grown_row hg4 (hr3.ne_row h3.row (by decide))
  have hm4 : Mods (PF g A) w w4 := hm3.then (.of_grown hg4 fun k hk => .inr hk)
  have hA4g : A'.map (·.block) ≠ some g := by
    rcases hA4 with e | e
    · rw [e]; exact h3.ne_row
    · rw [e]; have := h3.blk.lt; intro e'; injection e' with e'; omega
  have hA4f : A'.map (·.block) = A.map (·.block) ∨ ∀ b, A'.map (·.block) = some b → w.heap.size ≤ b := by
    rcases hA4 with e | e
    · exact .inl e
    · refine .inr fun b hb => ?_
      rw [e] at hb
      injection hb with hb
      have := hm3.size
      omega
  have HY := Lib.hid hys.out
  have hyes := h3.yes
  have hmg := h3.map_ne_var
  clear c0 x0 x1 h3 hX3 hm3 hr3 hg4 hA4 hL3 hys
  have c0 := hk4.cell 0 rfl
  have f0 := hk4.free 0
  have x0 := hX4.cell 0 rfl
  have x1 := hX4.cell 1 rfl
  refine hK _ _ (by simp [owed, left] <;> (and_intros <;> first | trivial | assumption)) ?_
  clear hK K
  try simp only [List.getElem_toArray, List.getElem_cons_succ, List.getElem_cons_zero, Act.put, List.setIfInBounds_toArray, List.set_cons_zero, List.set_cons_succ]
  iterate 2 (refine planE_pure (v := ?_) rfl (by rfl) (fun w' => ?_) ?_; rotate_left; (focus (simp only [List.getElem_toArray, List.getElem_cons_succ, List.getElem_cons_zero]; go_simp; first | with_reducible rfl | (simp (disch := omega) only [if_pos, if_neg, Result.andThen_ok]; try with_reducible rfl) | skip)); try simp only [List.getElem_toArray, List.getElem_cons_succ, List.getElem_cons_zero, Act.put, List.setIfInBounds_toArray, List.set_cons_zero, List.set_cons_succ])
  refine planE_eff rfl (by rfl) (fun K hK => ?_)
  go_simp
  skip
  refine hK _ _ (by simp [owed, left] <;> (and_intros <;> first | trivial | assumption)) ?_
  clear hK K
  try simp only [List.getElem_toArray, List.getElem_cons_succ, List.getElem_cons_zero, Act.put, List.setIfInBounds_toArray, List.set_cons_zero, List.set_cons_succ]
  refine planE_end ?_
  have hk5 := hk4.setCell 0 (.slice A' ys.length cap')
  rw [show (#[.slice A R.length cap, .map (some m), .int .i64 room] : Array Value).setIfInBounds 0 (.slice A' ys.length cap') = #[.slice A' ys.length cap', .map (some m), .int .i64 room] from rfl] at hk5
  have hrow5 := hrow4.setCell_ne (p := ⟨g, 0, none⟩) hA4g (.slice A' ys.length cap')
  have hmap5 := hmap4.setCell (p := ⟨g, 0, none⟩) hmg (.slice A' ys.length cap')
  have hd5 : ∀ r ∈ R, OB (w4.setCell ⟨g, 0, none⟩ (.slice A' ys.length cap')) 0 r.A r.c r.d ∧ r.d.length ≤ 65536 := fun r hr => ⟨(hd4 r hr).1.setCell_ne (p := ⟨g, 0, none⟩) ((hd4 r hr).1.ne_var hk4 (by decide)) _, (hd4 r hr).2⟩
  have hn5 := hn4.setCell_ne (p := ⟨g, 0, none⟩) (hn4.ne_var hk4 (by decide)) (.slice A' ys.length cap')
  have hm5 := hm4.setCell ⟨g, 0, none⟩ (.inl (.inl rfl)) (.slice A' ys.length cap')
  have hyl : ys.length = R.length + 1 := by rw [HY.out]; simp
  have HP : Hid (PostR (w4.setCell ⟨g, 0, none⟩ (.slice A' ys.length cap')) g (R ++ [⟨f, t, D', c', d'⟩]) A' cap' m es room) := Lib.hid ⟨by rw [List.length_append, List.length_singleton, ← hyl]; exact hk5, by
      rw [List.map_append, show List.map Ltr.cells [⟨f, t, D', c', d'⟩] = [[.int .i64 f, .int .i64 t, .slice D' d'.length c']] from rfl, ← HY.out]; exact hrow5, fun r hr => by
      rcases List.mem_append.1 hr with hr | hr
      · exact hd5 r hr
      · rw [List.mem_singleton] at hr
        subst hr
        exact ⟨hn5, by show d'.length ≤ 65536; omega⟩, hmap5, hyes, by rw [List.length_append, List.length_singleton]; omega, hl.2⟩
  have HM := Lib.hid hm5
  generalize w4.setCell ⟨g, 0, none⟩ (.slice A' ys.length cap') = w5 at *
  clear hk5 hrow5 hmap5 hd5 hn5 hm5 hyl hk4 hX4 hmap4 hd4 hn4 hm4 c0 f0 x0 x1 hrow4 HY
  go_wp2_with fail
  go_ret
  exact ⟨A', cap', D', c', d', rfl, hd', HP.out, HM.out, fun b hb => by have := (HDF.out b hb).1; have := HXB.out; omega, hA4f⟩
end Go.Proofs.Ytihmnkkhccihpaa
