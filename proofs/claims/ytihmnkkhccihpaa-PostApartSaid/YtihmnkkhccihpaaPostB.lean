/- Contracts of post's methods: Send. -/
import Derived.Test.YtihmnkkhccihpaaPostA
namespace Go.Proofs.Ytihmnkkhccihpaa
open Go.RowKit

section
variable {g : Nat} {R : List Ltr} {A : Option Addr} {cap m : Nat} {es : List ((Int × Int) × Value)} {room : Int}
set_option maxRecDepth 20000 in
set_option maxHeartbeats 1000000 in
theorem postSend_nil (f t : Int) (D : Option Addr) (n c : Nat) (w : World) : Calls Try.prog 11 #[.pointer none, .int .i64 f, .int .i64 t, .slice D n c] w fun e w' => e = .returned (.int .i64 1) ∧ Below w.heap.size w w' := by
  have hb := (Below.refl w.heap.size w).alloc (Nat.le_refl _) (.cells #[.int .i64 f, .int .i64 t] 56)
  go_enter Try.func11, Try.ntmps11
  go_wp2_with fail
  go_ret
  exact ⟨rfl, hb⟩
set_option maxRecDepth 20000 in
set_option maxHeartbeats 1000000 in
theorem postSend_bad (f t : Int) (D : Option Addr) (n c : Nat) (w : World) (hok : okB f t = false) : Calls Try.prog 11 #[.pointer (some ⟨g, 0, none⟩), .int .i64 f, .int .i64 t, .slice D n c] w fun e w' => e = .returned (.int .i64 1) ∧ Below w.heap.size w w' := by
  have hb := (Below.refl w.heap.size w).alloc (Nat.le_refl _) (.cells #[.int .i64 f, .int .i64 t] 56)
  go_enter Try.func11, Try.ntmps11
  go_wp2_with fail
  refine (postOk f t _).mono ?_
  rintro e w' ⟨rfl, hb2⟩
  rw [hok]
  have HB := Lib.hid (hb.trans (hb2.mono hb.size))
  clear hb hb2
  go_wp2_with fail
  go_ret
  exact ⟨rfl, HB.out⟩
set_option maxRecDepth 20000 in
set_option maxHeartbeats 1000000 in
theorem postSend_large (f t : Int) (D : Option Addr) (n c : Nat) (w : World) (hok : okB f t = true) (hn : 65536 < n) : Calls Try.prog 11 #[.pointer (some ⟨g, 0, none⟩), .int .i64 f, .int .i64 t, .slice D n c] w fun e w' => e = .returned (.int .i64 7) ∧ Below w.heap.size w w' := by
  have hb := (Below.refl w.heap.size w).alloc (Nat.le_refl _) (.cells #[.int .i64 f, .int .i64 t] 56)
  have hn' : (65536 : Int) < (n : Int) := by omega
  go_enter Try.func11, Try.ntmps11
  go_wp2_with fail
  refine (postOk f t _).mono ?_
  rintro e w' ⟨rfl, hb2⟩
  rw [hok]
  have HB := Lib.hid (hb.trans (hb2.mono hb.size))
  clear hb hb2
  go_wp2_with fail
  go_ret
  exact ⟨rfl, HB.out⟩

theorem bool_zero (w : World) : (zeroValue 4).run Try.prog w = .ok (.bool false) w := by
  have h := Try.zeroValue4 (w := w)
  exact h

set_option maxRecDepth 20000 in
set_option maxHeartbeats 1000000 in
theorem postSend_cut (f t : Int) (D : Option Addr) (n c : Nat) (w : World) (h : PostR w g R A cap m es room) (hok : okB f t = true) (hn : n ≤ 65536) (hc : mget es (f, t) ≠ none) : Calls Try.prog 11 #[.pointer (some ⟨g, 0, none⟩), .int .i64 f, .int .i64 t, .slice D n c] w fun e w' => e = .returned (.int .i64 11) ∧ Below w.heap.size w w' := by
  have hb := (Below.refl w.heap.size w).alloc (Nat.le_refl _) (.cells #[.int .i64 f, .int .i64 t] 56)
  have hL := Blk.new w #[.int .i64 f, .int .i64 t] 56
  obtain ⟨v, hv⟩ : ∃ v, mget es (f, t) = some v := by
    cases hq : mget es (f, t) with
    | none => exact absurd hq hc
    | some v => exact ⟨v, rfl⟩
  have hvt : v = .bool true := h.yes _ (mget_mem hv)
  subst hvt
  have hn' : ¬ (65536 : Int) < (n : Int) := by omega
  have H := Lib.hid (h.below hb)
  have HV := Lib.hid hv
  clear h hc hv
  go_enter Try.func11, Try.ntmps11
  go_wp2_with fail
  refine (postOk f t _).mono ?_
  rintro e w2 ⟨rfl, hb2⟩
  rw [hok]
  have h2 := H.out.below hb2
  have hL2 := hL.kept hb2
  have HB := Lib.hid (hb.trans (hb2.mono hb.size))
  have c1 := h2.blk.cell 1 rfl
  have l0 := hL2.cell 0 rfl
  have l1 := hL2.cell 1 rfl
  have hlk : ∀ a, (Instr.lookup 51 (.map (some m)) (.agg #[.int .i64 f, .int .i64 t]) false).run Try.prog (w2.drewN a) = .ok (.bool true) (w2.drewN a) := fun a => run_lookup_hit linkLaw (h2.map.drewN a) Try.underlying51 HV.out false
  clear hb hb2 hL H h2 hL2
  go_wp2_with fail
  go_quiet (fail)
  go_wp2_with fail
  go_ret
  exact ⟨rfl, below_drewN HB.out _⟩

set_option maxRecDepth 20000 in
set_option maxHeartbeats 1000000 in
theorem postSend_full (f t : Int) (D : Option Addr) (c : Nat) (d : List UInt8) (w : World) (h : PostR w g R A cap m es room) (hok : okB f t = true) (hn : d.length ≤ 65536) (hc : mget es (f, t) = none) (hr : room ≤ (R.length : Int)) : Calls Try.prog 11 #[.pointer (some ⟨g, 0, none⟩), .int .i64 f, .int .i64 t, .slice D d.length c] w fun e w' => e = .returned (.int .i64 10) ∧ Below w.heap.size w w' := by
  have hb := (Below.refl w.heap.size w).alloc (Nat.le_refl _) (.cells #[.int .i64 f, .int .i64 t] 56)
  have hL := Blk.new w #[.int .i64 f, .int .i64 t] 56
  have hn' : ¬ (65536 : Int) < (d.length : Int) := by omega
  have H := Lib.hid (h.below hb)
  have HV := Lib.hid hc
  have HA := Lib.hid h.row.blk_lt
  have hgl := h.blk.lt
  clear h hc
  go_enter Try.func11, Try.ntmps11
  go_wp2_with fail
  refine (postOk f t _).mono ?_
  rintro e w2 ⟨rfl, hb2⟩
  rw [hok]
  have h2 := H.out.below hb2
  have hL2 := hL.kept hb2
  have HB := Lib.hid (hb.trans (hb2.mono hb.size))
  have c1 := h2.blk.cell 1 rfl
  have l0 := hL2.cell 0 rfl
  have l1 := hL2.cell 1 rfl
  have hlk : ∀ a, (Instr.lookup 51 (.map (some m)) (.agg #[.int .i64 f, .int .i64 t]) false).run Try.prog (w2.drewN a) = .ok (.bool false) (w2.drewN a) := fun a => run_lookup_miss linkLaw (h2.map.drewN a) Try.underlying51 (bool_zero _) HV.out false
  have H2 := Lib.hid h2
  clear hb hb2 hL H h2 hL2
  go_wp2_with fail
  go_quiet (fail)
  clear hlk c1
  go_wp2_with fail
  refine (postPut_full f t D c d.length _ (H2.out.below (below_drewN (Below.refl _ _) _)) hr).mono ?_
  rintro e w3 ⟨rfl, hb3⟩
  have HB3 := Lib.hid ((below_drewN HB.out _).trans (hb3.mono (below_drewN HB.out _).size))
  clear hb3
  go_wp2_with fail
  go_ret
  exact ⟨rfl, HB3.out⟩

set_option maxRecDepth 20000 in
set_option maxHeartbeats 1000000 in
theorem postSend (f t : Int) (D : Option Addr) (c : Nat) (d : List UInt8) (w : World) (h : PostR w g R A cap m es room) (hok : okB f t = true) (hn : d.length ≤ 65536) (hc : mget es (f, t) = none) (hr : (R.length : Int) < room) (hD : RB w D d) : Calls Try.prog 11 #[.pointer (some ⟨g, 0, none⟩), .int .i64 f, .int .i64 t, .slice D d.length c] w (PutE g R A m es room f t d w) := by
  have hb := (Below.refl w.heap.size w).alloc (Nat.le_refl _) (.cells #[.int .i64 f, .int .i64 t] 56)
  have hL := Blk.new w #[.int .i64 f, .int .i64 t] 56
  have hn' : ¬ (65536 : Int) < (d.length : Int) := by omega
  have H := Lib.hid (h.below hb)
  have HV := Lib.hid hc
  have HA := Lib.hid h.row.blk_lt
  have hgl := h.blk.lt
  clear h hc
  go_enter Try.func11, Try.ntmps11
  go_wp2_with fail
  refine (postOk f t _).mono ?_
  rintro e w2 ⟨rfl, hb2⟩
  rw [hok]
  have h2 := H.out.below hb2
  have hL2 := hL.kept hb2
  have HB := Lib.hid (hb.trans (hb2.mono hb.size))
  have c1 := h2.blk.cell 1 rfl
  have l0 := hL2.cell 0 rfl
  have l1 := hL2.cell 1 rfl
  have hlk : ∀ a, (Instr.lookup 51 (.map (some m)) (.agg #[.int .i64 f, .int .i64 t]) false).run Try.prog (w2.drewN a) = .ok (.bool false) (w2.drewN a) := fun a => run_lookup_miss linkLaw (h2.map.drewN a) Try.underlying51 (bool_zero _) HV.out false
  have H2 := Lib.hid h2
  clear hb hb2 hL H h2 hL2
  go_wp2_with fail
  go_quiet (fail)
  clear hlk c1
  go_wp2_with fail
  refine (postPut f t D c d _ (H2.out.below (below_drewN (Below.refl _ _) _)) hr (hD.below (below_drewN HB.out _)) hn).mono ?_
  rintro e w3 ⟨A', cap', D', c', d', rfl, hd', hp3, hm3, hf3, ha3⟩
  have hm := (Mods.of_below (S := PF g A) (below_drewN HB.out _)).then hm3
  have hs := HB.out.size
  have HF : Hid (PutE g R A m es room f t d w (.returned (.int .i64 0)) w3) := Lib.hid ⟨A', cap', D', c', d', rfl, hd', hp3, hm, fun b hb => Nat.le_trans hs (hf3 b hb), ha3.imp id (fun h b hb => Nat.le_trans hs (h b hb))⟩
  clear hp3 hm3 hf3 ha3 hm hs
  go_wp2_with fail
  go_ret
  exact HF.out

set_option maxRecDepth 20000 in
set_option maxHeartbeats 1000000 in
theorem postLen_nil (w : World) : Calls Try.prog 14 #[.pointer none] w fun e w' => e = .returned (.int .i64 0) ∧ w = w' := by
  go_enter Try.func14, Try.ntmps14
  go_wp2_with fail
  go_ret
  exact ⟨rfl, rfl⟩
set_option maxRecDepth 20000 in
set_option maxHeartbeats 1000000 in
theorem postLen (w : World) (h : PostR w g R A cap m es room) : Calls Try.prog 14 #[.pointer (some ⟨g, 0, none⟩)] w fun e w' => e = .returned (.int .i64 (R.length : Int)) ∧ w = w' := by
  have c0 := h.blk.cell 0 rfl
  go_enter Try.func14, Try.ntmps14
  go_wp2_with fail
  go_ret
  exact ⟨rfl, rfl⟩

/-- What Look and Take answer: the ends, the bytes, the error. -/
def LookE (f t : Int) (d : List UInt8) (er : Int) (w : World) (e : Ending) (w' : World) : Prop :=
  ∃ (D : Option Addr) (c : Nat) (d' : List UInt8), e = .returned (.tuple #[.int .i64 f, .int .i64 t, .slice D d'.length c, .int .i64 er]) ∧ Hid (d' = d) ∧ d'.length ≤ 65536 ∧ OB w' w.heap.size D c d' ∧ Below w.heap.size w w'

set_option maxRecDepth 20000 in
set_option maxHeartbeats 2000000 in
theorem postLook_of (ptr : Value) (i er f t : Int) (D : Option Addr) (c : Nat) (d : List UInt8) (w : World) (hat : Calls Try.prog 24 #[ptr, .int .i64 i] w fun e w' => e = .returned (.tuple #[.agg #[.int .i64 f, .int .i64 t, .slice D d.length c], .int .i64 er]) ∧ Below w.heap.size w w')
    (hD : RB w D d) (hd : d.length ≤ 65536) : Calls Try.prog 17 #[ptr, .int .i64 i] w (LookE f t d er w) := by
  have HAT := Lib.hid hat
  clear hat
  go_enter Try.func17, Try.ntmps17
  go_wp2_with fail
  refine HAT.out.mono ?_
  rintro e w2 ⟨rfl, hb2⟩
  have hb3 : Below w2.heap.size w2 (w2.alloc (.cells #[.int .i64 f, .int .i64 t, .slice D d.length c] 59)) := (Below.refl _ _).alloc (Nat.le_refl _) _
  have hX := Blk.new w2 #[.int .i64 f, .int .i64 t, .slice D d.length c] 59
  obtain ⟨xb, hxb⟩ : ∃ xb, xb = w2.heap.size := ⟨_, rfl⟩
  rw [← hxb] at hX
  have hB3 := hb2.trans (hb3.mono hb2.size)
  have hD3 := hD.below hB3
  have HXB := Lib.hid hxb
  clear hb2 hb3 hD hxb
  go_wp2_with fail
  rw [← HXB.out]
  generalize w2.alloc (.cells #[.int .i64 f, .int .i64 t, .slice D d.length c] 59) = w3 at *
  refine wp_region_planE_gen (by kernel_rfl) [(0, none), (1, none), (2, none), (3, none), (4, none), (5, none), (6, none), (7, none), (9, none), (8, some [7]), (10, none), (11, none), (12, none), (13, none)] (by kernel_rfl) (by kernel_rfl) (by decide) ?_
  intro wq hwq
  have hb1q : Below w3.heap.size w3 wq := by rw [hwq]; exact (Below.refl _ _).drew
  have hXq := hX.kept hb1q
  have hDq := hD3.below hb1q
  have hBq := hB3.trans (hb1q.mono hB3.size)
  have x0 := hXq.cell 0 rfl
  have x1 := hXq.cell 1 rfl
  have x2 := hXq.cell 2 rfl
  clear hX hD3 hB3 hwq hb1q
  iterate 2 (refine planE_pure (v := ?_) rfl (by rfl) (fun w' => ?_) ?_; rotate_left; (focus (simp only [List.getElem_toArray, List.getElem_cons_succ, List.getElem_cons_zero]; go_simp; first | with_reducible rfl | (simp (disch := omega) only [if_pos, if_neg, Result.andThen_ok]; try with_reducible rfl) | skip)); try simp only [List.getElem_toArray, List.getElem_cons_succ, List.getElem_cons_zero, Act.put, List.setIfInBounds_toArray, List.set_cons_zero, List.set_cons_succ])
  refine planE_cells (v := ?_) [(⟨xb, 0, none⟩, .int .i64 f)] (by simp; and_intros <;> assumption) rfl (by rfl) (fun w' hw' => ?_) ?_; rotate_left; (focus (simp only [List.forall_mem_cons, List.not_mem_nil, false_imp_iff, implies_true, and_true] at hw'; simp only [List.getElem_toArray, List.getElem_cons_succ, List.getElem_cons_zero]; go_simp; first | with_reducible rfl | (simp (disch := omega) only [if_pos, if_neg, Result.andThen_ok]; try with_reducible rfl) | skip)); try simp only [List.getElem_toArray, List.getElem_cons_succ, List.getElem_cons_zero, Act.put, List.setIfInBounds_toArray, List.set_cons_zero, List.set_cons_succ]
  iterate 2 (refine planE_pure (v := ?_) rfl (by rfl) (fun w' => ?_) ?_; rotate_left; (focus (simp only [List.getElem_toArray, List.getElem_cons_succ, List.getElem_cons_zero]; go_simp; first | with_reducible rfl | (simp (disch := omega) only [if_pos, if_neg, Result.andThen_ok]; try with_reducible rfl) | skip)); try simp only [List.getElem_toArray, List.getElem_cons_succ, List.getElem_cons_zero, Act.put, List.setIfInBounds_toArray, List.set_cons_zero, List.set_cons_succ])
  refine planE_cells (v := ?_) [(⟨xb, 1, none⟩, .int .i64 t)] (by simp; and_intros <;> assumption) rfl (by rfl) (fun w' hw' => ?_) ?_; rotate_left; (focus (simp only [List.forall_mem_cons, List.not_mem_nil, false_imp_iff, implies_true, and_true] at hw'; simp only [List.getElem_toArray, List.getElem_cons_succ, List.getElem_cons_zero]; go_simp; first | with_reducible rfl | (simp (disch := omega) only [if_pos, if_neg, Result.andThen_ok]; try with_reducible rfl) | skip)); try simp only [List.getElem_toArray, List.getElem_cons_succ, List.getElem_cons_zero, Act.put, List.setIfInBounds_toArray, List.set_cons_zero, List.set_cons_succ]
  iterate 1 (refine planE_pure (v := ?_) rfl (by rfl) (fun w' => ?_) ?_; rotate_left; (focus (simp only [List.getElem_toArray, List.getElem_cons_succ, List.getElem_cons_zero]; go_simp; first | with_reducible rfl | (simp (disch := omega) only [if_pos, if_neg, Result.andThen_ok]; try with_reducible rfl) | skip)); try simp only [List.getElem_toArray, List.getElem_cons_succ, List.getElem_cons_zero, Act.put, List.setIfInBounds_toArray, List.set_cons_zero, List.set_cons_succ])
  refine planE_cells (v := ?_) [(⟨xb, 2, none⟩, .slice D d.length c)] (by simp; and_intros <;> assumption) rfl (by rfl) (fun w' hw' => ?_) ?_; rotate_left; (focus (simp only [List.forall_mem_cons, List.not_mem_nil, false_imp_iff, implies_true, and_true] at hw'; simp only [List.getElem_toArray, List.getElem_cons_succ, List.getElem_cons_zero]; go_simp; first | with_reducible rfl | (simp (disch := omega) only [if_pos, if_neg, Result.andThen_ok]; try with_reducible rfl) | skip)); try simp only [List.getElem_toArray, List.getElem_cons_succ, List.getElem_cons_zero, Act.put, List.setIfInBounds_toArray, List.set_cons_zero, List.set_cons_succ]
  iterate 1 (refine planE_pure (v := ?_) rfl (by rfl) (fun w' => ?_) ?_; rotate_left; (focus (simp only [List.getElem_toArray, List.getElem_cons_succ, List.getElem_cons_zero]; go_simp; first | with_reducible rfl | (simp (disch := omega) only [if_pos, if_neg, Result.andThen_ok]; try with_reducible rfl) | skip)); try simp only [List.getElem_toArray, List.getElem_cons_succ, List.getElem_cons_zero, Act.put, List.setIfInBounds_toArray, List.set_cons_zero, List.set_cons_succ])
  refine planE_eff rfl (by rfl) (fun K hK => ?_)
  go_simp
  refine (cloneB D c d wq hDq (by omega)).mono ?_
  rintro e w4 ⟨d', D', c', hd', hd1, hd2, rfl, ho4, hb4⟩
  have hX4 := hXq.kept hb4
  have hB4 := hBq.trans (hb4.mono hBq.size)
  have ho4' := ho4.base_le hBq.size
  clear x0 x1 x2 hXq hDq hBq hb4 ho4
  have x0 := hX4.cell 0 rfl
  have x1 := hX4.cell 1 rfl
  have x2 := hX4.cell 2 rfl
  refine hK _ _ (by simp [owed, left] <;> (and_intros <;> first | trivial | assumption)) ?_
  clear hK K
  try simp only [List.getElem_toArray, List.getElem_cons_succ, List.getElem_cons_zero, Act.put, List.setIfInBounds_toArray, List.set_cons_zero, List.set_cons_succ]
  iterate 4 (refine planE_pure (v := ?_) rfl (by rfl) (fun w' => ?_) ?_; rotate_left; (focus (simp only [List.getElem_toArray, List.getElem_cons_succ, List.getElem_cons_zero]; go_simp; first | with_reducible rfl | (simp (disch := omega) only [if_pos, if_neg, Result.andThen_ok]; try with_reducible rfl) | skip)); try simp only [List.getElem_toArray, List.getElem_cons_succ, List.getElem_cons_zero, Act.put, List.setIfInBounds_toArray, List.set_cons_zero, List.set_cons_succ])
  refine planE_end ?_
  go_wp2_with fail
  refine bodyPost_ret (v := .tuple #[.int .i64 f, .int .i64 t, .slice D' d'.length c', .int .i64 er]) (by simp [results, Try.results17, go_sem]) rfl ⟨D', c', d', rfl, hd', by omega, ho4', hB4⟩

theorem postLook_nil (i : Int) (w : World) : Calls Try.prog 17 #[.pointer none, .int .i64 i] w (LookE 0 0 [] 1 w) := postLook_of (.pointer none) i 1 0 0 none 0 [] w (postAt_nil i w) RB.nil (by simp)
theorem postLook_out (i : Int) (w : World) (h : PostR w g R A cap m es room) (hi : i < 0 ∨ (R.length : Int) ≤ i) (hi2 : -9223372036854775808 ≤ i ∧ i ≤ 9223372036854775807) : Calls Try.prog 17 #[.pointer (some ⟨g, 0, none⟩), .int .i64 i] w (LookE 0 0 [] 8 w) :=
  postLook_of (.pointer (some ⟨g, 0, none⟩)) i 8 0 0 none 0 [] w (postAt_out i w h hi hi2) RB.nil (by simp)
theorem postLook_in (i : Nat) (w : World) (h : PostR w g R A cap m es room) (hi : i < R.length) : Calls Try.prog 17 #[.pointer (some ⟨g, 0, none⟩), .int .i64 (i : Int)] w (LookE R[i].f R[i].t R[i].d 0 w) :=
  postLook_of (.pointer (some ⟨g, 0, none⟩)) i 0 R[i].f R[i].t R[i].A R[i].c R[i].d w (postAt_in i w h hi) (h.data _ (List.getElem_mem hi)).1.rb (h.data _ (List.getElem_mem hi)).2

set_option maxRecDepth 20000 in
set_option maxHeartbeats 2000000 in
theorem postTwin_err (ptr : Value) (i er : Int) (hne : er ≠ 0) (w : World) (hat : Calls Try.prog 24 #[ptr, .int .i64 i] w fun e w' => e = .returned (.tuple #[.agg #[.int .i64 0, .int .i64 0, .slice none 0 0], .int .i64 er]) ∧ Below w.heap.size w w') :
    Calls Try.prog 16 #[ptr, .int .i64 i] w fun e w' => e = .returned (.int .i64 er) ∧ Below w.heap.size w w' := by
  have HAT := Lib.hid hat
  have hne' : (er != 0) = true := by simpa using hne
  clear hat hne
  go_enter Try.func16, Try.ntmps16
  go_wp2_with fail
  refine HAT.out.mono ?_
  rintro e w2 ⟨rfl, hb2⟩
  have HB := Lib.hid (hb2.alloc hb2.size (.cells #[.int .i64 0, .int .i64 0, .slice none 0 0] 59))
  clear hb2
  go_wp2_with fail
  go_ret
  exact ⟨rfl, HB.out⟩
theorem postTwin_nil (i : Int) (w : World) : Calls Try.prog 16 #[.pointer none, .int .i64 i] w fun e w' => e = .returned (.int .i64 1) ∧ Below w.heap.size w w' := postTwin_err _ i 1 (by decide) w (postAt_nil i w)
theorem postTwin_out (i : Int) (w : World) (h : PostR w g R A cap m es room) (hi : i < 0 ∨ (R.length : Int) ≤ i) (hi2 : -9223372036854775808 ≤ i ∧ i ≤ 9223372036854775807) : Calls Try.prog 16 #[.pointer (some ⟨g, 0, none⟩), .int .i64 i] w fun e w' => e = .returned (.int .i64 8) ∧ Below w.heap.size w w' :=
  postTwin_err _ i 8 (by decide) w (postAt_out i w h hi hi2)

set_option maxRecDepth 20000 in
set_option maxHeartbeats 2000000 in
theorem postTwin_full (i : Nat) (w : World) (h : PostR w g R A cap m es room) (hi : i < R.length) (hr : room ≤ (R.length : Int)) : Calls Try.prog 16 #[.pointer (some ⟨g, 0, none⟩), .int .i64 (i : Int)] w fun e w' => e = .returned (.int .i64 10) ∧ Below w.heap.size w w' := by
  have HAT := Lib.hid (postAt_in i w h hi)
  have H := Lib.hid h
  generalize R[i].f = vf at *
  generalize R[i].t = vt at *
  generalize R[i].A = vA at *
  generalize R[i].c = vc at *
  generalize R[i].d.length = vn at *
  clear h
  go_enter Try.func16, Try.ntmps16
  go_wp2_with fail
  refine HAT.out.mono ?_
  rintro e w2 ⟨rfl, hb2⟩
  have hb3 : Below w2.heap.size w2 (w2.alloc (.cells #[.int .i64 vf, .int .i64 vt, .slice vA vn vc] 59)) := (Below.refl _ _).alloc (Nat.le_refl _) _
  have hB3 := hb2.trans (hb3.mono hb2.size)
  have h3 := H.out.below hB3
  have HB := Lib.hid hB3
  have H3 := Lib.hid h3
  clear hb2 hb3 hB3 h3
  go_wp2_with fail
  refine (postPut_full vf vt vA vc vn _ H3.out hr).mono ?_
  rintro e w3 ⟨rfl, hb3⟩
  have HB3 := Lib.hid (HB.out.trans (hb3.mono HB.out.size))
  clear hb3
  go_wp2_with fail
  go_ret
  exact ⟨rfl, HB3.out⟩

set_option maxRecDepth 20000 in
set_option maxHeartbeats 2000000 in
theorem postTwin (i : Nat) (w : World) (h : PostR w g R A cap m es room) (hi : i < R.length) (hr : (R.length : Int) < room) : Calls Try.prog 16 #[.pointer (some ⟨g, 0, none⟩), .int .i64 (i : Int)] w (PutE g R A m es room R[i].f R[i].t R[i].d w) := by
  have HAT := Lib.hid (postAt_in i w h hi)
  have H := Lib.hid h
  have hD := (h.data _ (List.getElem_mem hi)).1.rb
  have hd := (h.data _ (List.getElem_mem hi)).2
  generalize R[i].f = vf at *
  generalize R[i].t = vt at *
  generalize R[i].A = vA at *
  generalize R[i].c = vc at *
  generalize R[i].d = vd at *
  clear h
  go_enter Try.func16, Try.ntmps16
  go_wp2_with fail
  refine HAT.out.mono ?_
  rintro e w2 ⟨rfl, hb2⟩
  have hb3 : Below w2.heap.size w2 (w2.alloc (.cells #[.int .i64 vf, .int .i64 vt, .slice vA vd.length vc] 59)) := (Below.refl _ _).alloc (Nat.le_refl _) _
  have hB3 := hb2.trans (hb3.mono hb2.size)
  have h3 := H.out.below hB3
  have HB := Lib.hid hB3
  have H3 := Lib.hid h3
  have HD3 := Lib.hid (hD.below hB3)
  clear hb2 hb3 hB3 h3 hD
  go_wp2_with fail
  refine (postPut vf vt vA vc vd _ H3.out hr HD3.out hd).mono ?_
  rintro e w4 ⟨A', cap', D', c', d', rfl, hd', hp3, hm3, hf3, ha3⟩
  have hm := (Mods.of_below (S := PF g A) HB.out).then hm3
  have hs := HB.out.size
  have HF : Hid (PutE g R A m es room vf vt vd w (.returned (.int .i64 0)) w4) := Lib.hid ⟨A', cap', D', c', d', rfl, hd', hp3, hm, fun b hb => Nat.le_trans hs (hf3 b hb), ha3.imp id (fun h b hb => Nat.le_trans hs (h b hb))⟩
  clear hp3 hm3 hf3 ha3 hm hs
  go_wp2_with fail
  go_ret
  exact HF.out
end
end Go.Proofs.Ytihmnkkhccihpaa
