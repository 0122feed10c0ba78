/- Contract of package disk's do: a change of files. -/
import Derived.Test.YthdmnajcphaekaaDoorDiskC
namespace Go.Proofs.YthdmnajcphaekaaDoor
open Go.RowKit

theorem mget_mdel (es : List (Nm × Value)) (k y : Nm) : mget (mdel es k) y = if y = k then none else mget es y := by
  induction es with
  | nil => simp [mdel, mget]
  | cons p r ih =>
    unfold mdel at ih ⊢
    rw [List.filter_cons]
    by_cases h : p.1 = k
    · rw [if_neg (by simpa using h), ih, mget_cons]
      by_cases hy : y = k
      · simp only [if_pos hy]
      · rw [if_neg hy, if_neg hy, if_neg (fun e => hy (by rw [← e, h]))]
    · rw [if_pos (by simpa using h), mget_cons, mget_cons, ih]
      by_cases hy : p.1 = y
      · rw [if_pos hy, if_pos hy, if_neg (fun e => h (by rw [hy, e]))]
      · rw [if_neg hy, if_neg hy]
section
variable {S T : Nat → Prop} {n m : Nat} {w w' : World} {es : List (Nm × Value)} {F : FS}
theorem FI.upd {name : Nm} {l : List UInt8} {A : Option Addr} {c : Nat} (hmap : MapAt encStr w' m (mput es name (.slice A l.length c))) (ht : Told S w es F) (hr : Rising F) (hn : T m) (hob : OBS T w' A c l) (hk : ∀ A c l, OBS S w A c l → OBS T w' A c l) : FI T w' m (fset F name l) := by
  refine ⟨_, hmap, ⟨fun k v hv => ?_, fun k hv => ?_⟩, rising_fset hr _ _, hn⟩
  · rw [mget_mputV] at hv
    rw [fget_fset]
    by_cases h : k = name
    · rw [if_pos h] at hv ⊢
      injection hv with hv
      subst hv
      exact ⟨A, c, l, rfl, hob, rfl⟩
    · rw [if_neg h] at hv ⊢
      obtain ⟨A', c', l', h1, h2, h3⟩ := ht.hit k v hv
      exact ⟨A', c', l', h1, hk _ _ _ h2, h3⟩
  · rw [mget_mputV] at hv
    rw [fget_fset]
    by_cases h : k = name
    · rw [if_pos h] at hv; cases hv
    · rw [if_neg h] at hv ⊢; exact ht.miss k hv
theorem FI.del {name : Nm} (hmap : MapAt encStr w' m (mdel es name)) (ht : Told S w es F) (hr : Rising F) (hn : T m) (hk : ∀ A c l, OBS S w A c l → OBS T w' A c l) : FI T w' m (fdel F name) := by
  refine ⟨_, hmap, ⟨fun k v hv => ?_, fun k hv => ?_⟩, rising_fdel hr _, hn⟩
  · rw [mget_mdel] at hv
    rw [fget_fdel]
    by_cases h : k = name
    · rw [if_pos h] at hv; cases hv
    · rw [if_neg h] at hv ⊢
      obtain ⟨A', c', l', h1, h2, h3⟩ := ht.hit k v hv
      exact ⟨A', c', l', h1, hk _ _ _ h2, h3⟩
  · rw [mget_mdel] at hv
    rw [fget_fdel]
    by_cases h : k = name
    · rw [if_pos h]
    · rw [if_neg h] at hv ⊢; exact ht.miss k hv
/-- A footprint, grown by what was made since. -/
def Sx (S : Nat → Prop) (w w' : World) (b : Nat) : Prop := S b ∨ News w w' b
theorem OB.wset {A : Option Addr} {c : Nat} {l : List UInt8} (h : OB w n A c l) (hm : MapAt encStr w m es) (ob : Obj) : OB (wset w m ob) n A c l :=
  h.of_block fun b hb => wset_other w m ob b (by
    rintro rfl
    obtain ⟨cs, hcs⟩ := h.blk b hb
    exact hm.ne_cells hcs rfl)
theorem OBS.wset {A : Option Addr} {c : Nat} {l : List UInt8} (h : OBS S w A c l) (hm : MapAt encStr w m es) (ob : Obj) (hT : ∀ b, S b → T b) : OBS T (wset w m ob) A c l :=
  ⟨OB.wset h.1 hm ob, fun b hb => hT b (h.2 b hb)⟩
theorem zero_bytes (w : World) : (zeroValue 23).run Tryd.prog w = .ok (.slice none 0 0) w := by kernel_rfl
/-- What stands under a name, nil if none does. -/
theorem Told.look (ht : Told S w es F) (name : Nm) : ∃ A c, RB w A ((fget F name).getD []) ∧ ∀ w', MapAt encStr w' m es → (Instr.lookup 67 (.map (some m)) (encStr name) false).run Tryd.prog w' = .ok (.slice A ((fget F name).getD []).length c) w' := by
  cases hk : mget es name with
  | none =>
    have h0 := ht.miss name hk
    rw [h0]
    refine ⟨none, 0, RB.nil, fun w' hm => ?_⟩
    have := run_lookup_miss (P := Tryd.prog) strLaw hm Tryd.underlying67 (zero_bytes w') hk false
    simpa using this
  | some v =>
    obtain ⟨A, c, l, rfl, hob, h0⟩ := ht.hit name v hk
    rw [h0]
    refine ⟨A, c, hob.1.rb, fun w' hm => ?_⟩
    have := run_lookup_hit (P := Tryd.prog) strLaw hm Tryd.underlying67 hk false
    simpa using this
end
/-- A guard: the next operation is a delete. -/
theorem at_delete {P : Program} {w : World} {ops : Array Oper} {rest : List Oper} {a : Act} {Q : Exit → Act → World → Prop} {dst : Option Tmp} {d s : Operand} {dT sT ty : TypeId} {pos : String} {af : Array Edge}
    (h : wpList P ops Q (Oper.mk dst (Op.call { callee := Callee.builtin Builtin.delete, args := #[d, s], argTypes := #[dT, sT] }) ty pos af none :: rest) a w) :
    wpList P ops Q (Oper.mk dst (Op.call { callee := Callee.builtin Builtin.delete, args := #[d, s], argTypes := #[dT, sT] }) ty pos af none :: rest) a w := h
theorem wp_mapDeleteT {K : Type} [DecidableEq K] {P : Program} {T M E : TypeId} {kv : K → Value} (w : World) {m : Nat} {es : List (K × Value)} {ops : Array Oper} {rest : List Oper} {o : Oper} {a : Act} {Q : Exit → Act → World → Prop} (hg : o.guard = none) (law : KeyLaw P T kv) (h : MapAt kv w m es) (mo ko : Operand)
    (ho : o.op = .call { callee := .builtin .delete, args := #[mo, ko], argTypes := #[M, T] }) (hM : P.underlying M = some (.map T E)) (k : K) (hm : a.eval mo = .map (some m)) (hk : a.eval ko = kv k)
    (hN : ∀ ob, MapAt kv (wset w m ob) m (mdel es k) → wpList P ops Q rest (a.put o.dst (.tuple #[])) (wset w m ob)) : wpList P ops Q (o :: rest) a w :=
  wpList_plain hg fun _ hK => op_mapDelete law h mo ko ho hM k hm hk fun ob hmo => hK _ _ (hN ob hmo)
theorem RowB.lt {w : World} {g : Nat} {l : List UInt8} (h : RowB w g l) : g < w.heap.size := lt_of_block h
theorem RowB.obs {S : Nat → Prop} {w : World} {g : Nat} {l : List UInt8} (h : RowB w g l) (hg : S g) (hl : l.length ≤ 9223372036854775807) : OBS S w (some ⟨g, 0, none⟩) l.length l :=
  ⟨h.ob (Nat.zero_le _) hl, fun b hb => by injection hb with hb; subst hb; exact hg⟩
/-- A change as a value. -/
abbrev wrV (w : Wr) (X : Option Addr) (cx : Nat) : Array Value := #[.int .i64 w.kind, .string ⟨w.name.toArray⟩, .int .i64 (w.off : Int), .slice X w.data.length cx]
theorem Blk.wset_ne {w : World} {g m : Nat} {T : TypeId} {cs : Array Value} (h : Blk w g T cs) (hne : g ≠ m) (ob : Obj) : Blk (wset w m ob) g T cs := by
  unfold Blk; rw [wset_other w m ob g hne]; exact h
def DoneF (S : Nat → Prop) (m : Nat) (F : FS) (w : World) (e : Ending) (w' : World) : Prop := e = .returned (.tuple #[]) ∧ FI (Sx S w w') w' m F ∧ Mods (fun b => b = m) w w'

set_option maxRecDepth 20000 in
set_option maxHeartbeats 8000000 in
theorem diskDo {S : Nat → Prop} {m : Nat} {F : FS} (w : World) (h : FI S w m F) (c : Wr) (X : Option Addr) (cx : Nat) (hX : RB w X c.data) (hk : c.kind = 1 ∨ c.kind = 2 ∨ c.kind = 3) (ho : c.off ≤ 4194304) (hd : c.data.length ≤ 140737488355328) (hs : ∀ k l, fget F k = some l → l.length ≤ 140737488355328) :
    Calls Tryd.prog 46 #[.map (some m), .agg (wrV c X cx)] w (DoneF S m (doF F c) w) := by
  obtain ⟨es, hmap, ht, hF, hnm⟩ := h
  have hal : Below w.heap.size w (w.alloc (.cells (wrV c X cx) 73)) := (Below.refl _ _).alloc (Nat.le_refl _) _
  have hx := Blk.new w (wrV c X cx) 73
  obtain ⟨A, cc, hRB, hlk⟩ := ht.look (m := m) c.name
  have hol : ((fget F c.name).getD []).length ≤ 140737488355328 := by
    cases hg : fget F c.name with
    | none => simp
    | some l => exact hs _ _ hg
  have hmap1 := hmap.below hal
  have ht1 := ht.below hal
  have hX1 := hX.below hal
  have hRB1 := hRB.below hal
  have hmlt := hmap.lt
  obtain ⟨kind, name, off, data⟩ := c
  simp only at *
  obtain ⟨old, hold⟩ : ∃ old, old = (fget F name).getD [] := ⟨_, rfl⟩
  rw [← hold] at hRB1 hlk hol
  obtain ⟨xb, hxb⟩ : ∃ xb, xb = w.heap.size := ⟨_, rfl⟩
  have HXB := Lib.hid hxb
  have HMODS : Hid (∀ w', Below w.heap.size w w' → Mods (fun b => b = m) w w') := Lib.hid fun w' hb => .of_below hb
  rw [← hxb] at hx
  have x0 := hx.cell 0 rfl
  have hne : xb ≠ m := by omega
  have HLK := Lib.hid hlk
  have HOLD := Lib.hid hold
  have HT := Lib.hid ht1
  have HF := Lib.hid hF
  clear hmap ht hX hRB hs hxb hlk hold ht1 hF
  rcases hk with rfl | rfl | rfl
  · have HDO : Hid (doF F ⟨1, name, off, data⟩ = fset F name (putD old off data)) := Lib.hid (by rw [HOLD.out]; rfl)
    rw [HDO.out]
    clear HDO
    go_enter Tryd.func46, Tryd.ntmps46
    go_wp2_with fail
    rw [← HXB.out]
    generalize w.alloc (.cells #[.int .i64 1, .string ⟨name.toArray⟩, .int .i64 (off : Int), .slice X data.length cx] 73) = w1 at *
    go_wp2_with fail
    refine wp_region_planE_gen (by kernel_rfl) [(0, none), (1, none), (2, none), (3, none), (4, none), (5, none), (6, none), (7, none), (8, none), (9, none), (10, none), (11, some [6, 8, 10]), (12, some [0, 1, 2, 3, 4, 5, 6, 7, 8, 9, 10])] (by kernel_rfl) (by kernel_rfl) (by decide) ?_
    intro wq hwq
    have hBq : Below w1.heap.size w1 wq := by rw [hwq]; exact (Below.refl _ _).drew
    have hx2 := hx.kept hBq
    have y1 := hx2.cell 1 rfl
    have y2 := hx2.cell 2 rfl
    have y3 := hx2.cell 3 rfl
    have hm2 := hmap1.below hBq
    have hl2 := HLK.out wq hm2
    have hRB2 := hRB1.below hBq
    have hX2 := hX1.below hBq
    have HT2 := Lib.hid (HT.out.below hBq)
    have hB2 := hal.trans (hBq.mono hal.size)
    clear hwq hx hmap1 hRB1 hX1 hal
    iterate 2 (refine planE_pure (v := ?_) rfl (by rfl) (fun w' => ?_) ?_; rotate_left; (focus (simp only [List.getElem_toArray, List.getElem_cons_succ, List.getElem_cons_zero]; go_simp; first | with_reducible rfl | (simp (disch := omega) only [if_pos, if_neg, Result.andThen_ok]; try with_reducible rfl) | skip)); try simp only [List.getElem_toArray, List.getElem_cons_succ, List.getElem_cons_zero, Act.put, List.setIfInBounds_toArray, List.set_cons_zero, List.set_cons_succ])
    refine planE_cells (v := ?_) [(⟨xb, 1, none⟩, .string ⟨name.toArray⟩)] (by simp; and_intros <;> assumption) rfl (by rfl) (fun w' hw' => ?_) ?_; rotate_left; (focus (simp only [List.forall_mem_cons, List.not_mem_nil, false_imp_iff, implies_true, and_true] at hw'; simp only [List.getElem_toArray, List.getElem_cons_succ, List.getElem_cons_zero]; go_simp; first | with_reducible rfl | (simp (disch := omega) only [if_pos, if_neg, Result.andThen_ok]; try with_reducible rfl) | skip)); try simp only [List.getElem_toArray, List.getElem_cons_succ, List.getElem_cons_zero, Act.put, List.setIfInBounds_toArray, List.set_cons_zero, List.set_cons_succ]
    iterate 2 (refine planE_pure (v := ?_) rfl (by rfl) (fun w' => ?_) ?_; rotate_left; (focus (simp only [List.getElem_toArray, List.getElem_cons_succ, List.getElem_cons_zero]; go_simp; first | with_reducible rfl | (simp (disch := omega) only [if_pos, if_neg, Result.andThen_ok]; try with_reducible rfl) | skip)); try simp only [List.getElem_toArray, List.getElem_cons_succ, List.getElem_cons_zero, Act.put, List.setIfInBounds_toArray, List.set_cons_zero, List.set_cons_succ])
    refine planE_cells (v := ?_) [(⟨xb, 1, none⟩, .string ⟨name.toArray⟩)] (by simp; and_intros <;> assumption) rfl (by rfl) (fun w' hw' => ?_) ?_; rotate_left; (focus (simp only [List.forall_mem_cons, List.not_mem_nil, false_imp_iff, implies_true, and_true] at hw'; simp only [List.getElem_toArray, List.getElem_cons_succ, List.getElem_cons_zero]; go_simp; first | with_reducible rfl | (simp (disch := omega) only [if_pos, if_neg, Result.andThen_ok]; try with_reducible rfl) | skip)); try simp only [List.getElem_toArray, List.getElem_cons_succ, List.getElem_cons_zero, Act.put, List.setIfInBounds_toArray, List.set_cons_zero, List.set_cons_succ]
    refine planE_read (v := ?_) (fun w' => (Instr.lookup 67 (.map (some m)) (.string ⟨name.toArray⟩) false).run Tryd.prog w' = .ok (.slice A old.length cc) w') rfl (by rfl) (fun w' hw' => ?_) (hl2) ?_; rotate_left; (focus (simp only [List.getElem_toArray, List.getElem_cons_succ, List.getElem_cons_zero]; go_simp; first | with_reducible rfl | (simp (disch := omega) only [if_pos, if_neg, Result.andThen_ok]; try with_reducible rfl) | skip)); try simp only [List.getElem_toArray, List.getElem_cons_succ, List.getElem_cons_zero, Act.put, List.setIfInBounds_toArray, List.set_cons_zero, List.set_cons_succ]
    iterate 1 (refine planE_pure (v := ?_) rfl (by rfl) (fun w' => ?_) ?_; rotate_left; (focus (simp only [List.getElem_toArray, List.getElem_cons_succ, List.getElem_cons_zero]; go_simp; first | with_reducible rfl | (simp (disch := omega) only [if_pos, if_neg, Result.andThen_ok]; try with_reducible rfl) | skip)); try simp only [List.getElem_toArray, List.getElem_cons_succ, List.getElem_cons_zero, Act.put, List.setIfInBounds_toArray, List.set_cons_zero, List.set_cons_succ])
    refine planE_cells (v := ?_) [(⟨xb, 2, none⟩, .int .i64 (off : Int))] (by simp; and_intros <;> assumption) rfl (by rfl) (fun w' hw' => ?_) ?_; rotate_left; (focus (simp only [List.forall_mem_cons, List.not_mem_nil, false_imp_iff, implies_true, and_true] at hw'; simp only [List.getElem_toArray, List.getElem_cons_succ, List.getElem_cons_zero]; go_simp; first | with_reducible rfl | (simp (disch := omega) only [if_pos, if_neg, Result.andThen_ok]; try with_reducible rfl) | skip)); try simp only [List.getElem_toArray, List.getElem_cons_succ, List.getElem_cons_zero, Act.put, List.setIfInBounds_toArray, List.set_cons_zero, List.set_cons_succ]
    iterate 1 (refine planE_pure (v := ?_) rfl (by rfl) (fun w' => ?_) ?_; rotate_left; (focus (simp only [List.getElem_toArray, List.getElem_cons_succ, List.getElem_cons_zero]; go_simp; first | with_reducible rfl | (simp (disch := omega) only [if_pos, if_neg, Result.andThen_ok]; try with_reducible rfl) | skip)); try simp only [List.getElem_toArray, List.getElem_cons_succ, List.getElem_cons_zero, Act.put, List.setIfInBounds_toArray, List.set_cons_zero, List.set_cons_succ])
    refine planE_cells (v := ?_) [(⟨xb, 3, none⟩, .slice X data.length cx)] (by simp; and_intros <;> assumption) rfl (by rfl) (fun w' hw' => ?_) ?_; rotate_left; (focus (simp only [List.forall_mem_cons, List.not_mem_nil, false_imp_iff, implies_true, and_true] at hw'; simp only [List.getElem_toArray, List.getElem_cons_succ, List.getElem_cons_zero]; go_simp; first | with_reducible rfl | (simp (disch := omega) only [if_pos, if_neg, Result.andThen_ok]; try with_reducible rfl) | skip)); try simp only [List.getElem_toArray, List.getElem_cons_succ, List.getElem_cons_zero, Act.put, List.setIfInBounds_toArray, List.set_cons_zero, List.set_cons_succ]
    refine planE_eff rfl (by rfl) (fun K hK => ?_)
    go_simp
    refine (diskPut A cc old off X cx data _ hRB2 hX2 hol ho hd).mono ?_
    rintro e w3 ⟨rfl, hr3, hb3⟩
    have hx3 := hx2.kept hb3
    have hm3 := hm2.below hb3
    have HT3 := Lib.hid (HT2.out.below hb3)
    have hB3 := hB2.trans (hb3.mono hB2.size)
    have hsz3 := hB2.size
    clear y1 y2 y3 hl2 hRB2 hX2 HT2 hb3 hx2 hB2 hm2
    have y1 := hx3.cell 1 rfl
    have y2 := hx3.cell 2 rfl
    have y3 := hx3.cell 3 rfl
    have hl3 := HLK.out _ hm3
    refine hK _ _ (by simp [owed, left] <;> (and_intros <;> first | trivial | assumption)) ?_
    clear hK K
    try simp only [List.getElem_toArray, List.getElem_cons_succ, List.getElem_cons_zero, Act.put, List.setIfInBounds_toArray, List.set_cons_zero, List.set_cons_succ]
    refine planE_eff rfl (by rfl) (fun K hK => ?_)
    refine op_mapUpdate strLaw hm3 (.tmp 8) (.tmp 10) (.tmp 19) (by rfl) Tryd.underlying67 name (.slice (some ⟨wq.heap.size, 0, none⟩) (putD old off data).length (putD old off data).length) (by rfl) (by rfl) (by rfl) ?_
    intro ob hm4
    have hlen := putD_len old off data
    have HFIN : Hid (DoneF S m (fset F name (putD old off data)) w (.returned (.tuple #[])) (wset w3 m ob)) := Lib.hid ⟨rfl, FI.upd hm4 HT3.out HF.out (.inl hnm) (OBS.wset (hr3.obs (S := News w w3) ⟨by omega, hr3.lt⟩ (by omega)) hm3 ob (fun b hb => .inr ⟨hb.1, by rw [wset_size]; exact hb.2⟩)) (fun A c l h => OBS.wset h hm3 ob fun b hb => .inl hb), (HMODS.out _ hB3).wset m (.inl rfl) ob⟩
    clear y1 y2 y3 hl3
    have hx4 := hx3.wset_ne hne ob
    have y1 := hx4.cell 1 rfl
    have y2 := hx4.cell 2 rfl
    have y3 := hx4.cell 3 rfl
    refine hK _ _ (by simp [owed, left] <;> (and_intros <;> first | trivial | assumption)) ?_
    clear hK K
    try simp only [List.getElem_toArray, List.getElem_cons_succ, List.getElem_cons_zero, Act.put, List.setIfInBounds_toArray, List.set_cons_zero, List.set_cons_succ]
    refine planE_end ?_
    clear y1 y2 y3 hx4 hx3 hm3 hm4
    go_wp2_with fail
    exact bodyPost_end (v := .tuple #[]) (by kernel_rfl) rfl HFIN.out
  · have HDO : Hid (doF F ⟨2, name, off, data⟩ = fset F name (resizeD old off)) := Lib.hid (by rw [HOLD.out]; rfl)
    rw [HDO.out]
    clear HDO hX1 hd
    go_enter Tryd.func46, Tryd.ntmps46
    go_wp2_with fail
    rw [← HXB.out]
    generalize w.alloc (.cells #[.int .i64 2, .string ⟨name.toArray⟩, .int .i64 (off : Int), .slice X data.length cx] 73) = w1 at *
    go_wp2_with fail
    refine wp_region_planE_gen (by kernel_rfl) [(0, none), (1, none), (2, none), (3, none), (4, none), (5, none), (6, none), (7, none), (8, none), (9, some [6, 8]), (10, some [0, 1, 2, 3, 4, 5, 6, 7, 8])] (by kernel_rfl) (by kernel_rfl) (by decide) ?_
    intro wq hwq
    have hBq : Below w1.heap.size w1 wq := by rw [hwq]; exact (Below.refl _ _).drew
    have hx2 := hx.kept hBq
    have y1 := hx2.cell 1 rfl
    have y2 := hx2.cell 2 rfl
    have hm2 := hmap1.below hBq
    have hl2 := HLK.out wq hm2
    have hRB2 := hRB1.below hBq
    have HT2 := Lib.hid (HT.out.below hBq)
    have hB2 := hal.trans (hBq.mono hal.size)
    clear hwq hx hmap1 hRB1 hal
    iterate 2 (refine planE_pure (v := ?_) rfl (by rfl) (fun w' => ?_) ?_; rotate_left; (focus (simp only [List.getElem_toArray, List.getElem_cons_succ, List.getElem_cons_zero]; go_simp; first | with_reducible rfl | (simp (disch := omega) only [if_pos, if_neg, Result.andThen_ok]; try with_reducible rfl) | skip)); try simp only [List.getElem_toArray, List.getElem_cons_succ, List.getElem_cons_zero, Act.put, List.setIfInBounds_toArray, List.set_cons_zero, List.set_cons_succ])
    refine planE_cells (v := ?_) [(⟨xb, 1, none⟩, .string ⟨name.toArray⟩)] (by simp; and_intros <;> assumption) rfl (by rfl) (fun w' hw' => ?_) ?_; rotate_left; (focus (simp only [List.forall_mem_cons, List.not_mem_nil, false_imp_iff, implies_true, and_true] at hw'; simp only [List.getElem_toArray, List.getElem_cons_succ, List.getElem_cons_zero]; go_simp; first | with_reducible rfl | (simp (disch := omega) only [if_pos, if_neg, Result.andThen_ok]; try with_reducible rfl) | skip)); try simp only [List.getElem_toArray, List.getElem_cons_succ, List.getElem_cons_zero, Act.put, List.setIfInBounds_toArray, List.set_cons_zero, List.set_cons_succ]
    iterate 2 (refine planE_pure (v := ?_) rfl (by rfl) (fun w' => ?_) ?_; rotate_left; (focus (simp only [List.getElem_toArray, List.getElem_cons_succ, List.getElem_cons_zero]; go_simp; first | with_reducible rfl | (simp (disch := omega) only [if_pos, if_neg, Result.andThen_ok]; try with_reducible rfl) | skip)); try simp only [List.getElem_toArray, List.getElem_cons_succ, List.getElem_cons_zero, Act.put, List.setIfInBounds_toArray, List.set_cons_zero, List.set_cons_succ])
    refine planE_cells (v := ?_) [(⟨xb, 1, none⟩, .string ⟨name.toArray⟩)] (by simp; and_intros <;> assumption) rfl (by rfl) (fun w' hw' => ?_) ?_; rotate_left; (focus (simp only [List.forall_mem_cons, List.not_mem_nil, false_imp_iff, implies_true, and_true] at hw'; simp only [List.getElem_toArray, List.getElem_cons_succ, List.getElem_cons_zero]; go_simp; first | with_reducible rfl | (simp (disch := omega) only [if_pos, if_neg, Result.andThen_ok]; try with_reducible rfl) | skip)); try simp only [List.getElem_toArray, List.getElem_cons_succ, List.getElem_cons_zero, Act.put, List.setIfInBounds_toArray, List.set_cons_zero, List.set_cons_succ]
    refine planE_read (v := ?_) (fun w' => (Instr.lookup 67 (.map (some m)) (.string ⟨name.toArray⟩) false).run Tryd.prog w' = .ok (.slice A old.length cc) w') rfl (by rfl) (fun w' hw' => ?_) (hl2) ?_; rotate_left; (focus (simp only [List.getElem_toArray, List.getElem_cons_succ, List.getElem_cons_zero]; go_simp; first | with_reducible rfl | (simp (disch := omega) only [if_pos, if_neg, Result.andThen_ok]; try with_reducible rfl) | skip)); try simp only [List.getElem_toArray, List.getElem_cons_succ, List.getElem_cons_zero, Act.put, List.setIfInBounds_toArray, List.set_cons_zero, List.set_cons_succ]
    iterate 1 (refine planE_pure (v := ?_) rfl (by rfl) (fun w' => ?_) ?_; rotate_left; (focus (simp only [List.getElem_toArray, List.getElem_cons_succ, List.getElem_cons_zero]; go_simp; first | with_reducible rfl | (simp (disch := omega) only [if_pos, if_neg, Result.andThen_ok]; try with_reducible rfl) | skip)); try simp only [List.getElem_toArray, List.getElem_cons_succ, List.getElem_cons_zero, Act.put, List.setIfInBounds_toArray, List.set_cons_zero, List.set_cons_succ])
    refine planE_cells (v := ?_) [(⟨xb, 2, none⟩, .int .i64 (off : Int))] (by simp; and_intros <;> assumption) rfl (by rfl) (fun w' hw' => ?_) ?_; rotate_left; (focus (simp only [List.forall_mem_cons, List.not_mem_nil, false_imp_iff, implies_true, and_true] at hw'; simp only [List.getElem_toArray, List.getElem_cons_succ, List.getElem_cons_zero]; go_simp; first | with_reducible rfl | (simp (disch := omega) only [if_pos, if_neg, Result.andThen_ok]; try with_reducible rfl) | skip)); try simp only [List.getElem_toArray, List.getElem_cons_succ, List.getElem_cons_zero, Act.put, List.setIfInBounds_toArray, List.set_cons_zero, List.set_cons_succ]
    refine planE_eff rfl (by rfl) (fun K hK => ?_)
    go_simp
    refine (diskResize A cc old off _ hRB2 (by omega)).mono ?_
    rintro e w3 ⟨rfl, hr3, hb3⟩
    have hx3 := hx2.kept hb3
    have hm3 := hm2.below hb3
    have HT3 := Lib.hid (HT2.out.below hb3)
    have hB3 := hB2.trans (hb3.mono hB2.size)
    have hsz3 := hB2.size
    clear y1 y2 hl2 hRB2 HT2 hb3 hx2 hB2 hm2
    have y1 := hx3.cell 1 rfl
    have y2 := hx3.cell 2 rfl
    have hl3 := HLK.out _ hm3
    refine hK _ _ (by simp [owed, left] <;> (and_intros <;> first | trivial | assumption)) ?_
    clear hK K
    try simp only [List.getElem_toArray, List.getElem_cons_succ, List.getElem_cons_zero, Act.put, List.setIfInBounds_toArray, List.set_cons_zero, List.set_cons_succ]
    refine planE_eff rfl (by rfl) (fun K hK => ?_)
    refine op_mapUpdate strLaw hm3 (.tmp 22) (.tmp 24) (.tmp 31) (by rfl) Tryd.underlying67 name (.slice (some ⟨wq.heap.size, 0, none⟩) off off) (by rfl) (by rfl) (by rfl) ?_
    intro ob hm4
    have hlen := resizeD_len old off
    have HFIN : Hid (DoneF S m (fset F name (resizeD old off)) w (.returned (.tuple #[])) (wset w3 m ob)) := Lib.hid ⟨rfl, FI.upd (l := resizeD old off) (by rw [hlen]; exact hm4) HT3.out HF.out (.inl hnm) (OBS.wset (hr3.obs (S := News w w3) ⟨by omega, hr3.lt⟩ (by omega)) hm3 ob (fun b hb => .inr ⟨hb.1, by rw [wset_size]; exact hb.2⟩)) (fun A c l h => OBS.wset h hm3 ob fun b hb => .inl hb), (HMODS.out _ hB3).wset m (.inl rfl) ob⟩
    clear y1 y2 hl3
    have hx4 := hx3.wset_ne hne ob
    have y1 := hx4.cell 1 rfl
    have y2 := hx4.cell 2 rfl
    refine hK _ _ (by simp [owed, left] <;> (and_intros <;> first | trivial | assumption)) ?_
    clear hK K
    try simp only [List.getElem_toArray, List.getElem_cons_succ, List.getElem_cons_zero, Act.put, List.setIfInBounds_toArray, List.set_cons_zero, List.set_cons_succ]
    refine planE_end ?_
    clear y1 y2 hx4 hx3 hm3 hm4
    go_wp2_with fail
    exact bodyPost_end (v := .tuple #[]) (by kernel_rfl) rfl HFIN.out
  · have HDO : Hid (doF F ⟨3, name, off, data⟩ = fdel F name) := Lib.hid rfl
    rw [HDO.out]
    have HM1 := Lib.hid hmap1
    clear HDO hX1 hd hRB1 hmap1
    have y1 := hx.cell 1 rfl
    go_enter Tryd.func46, Tryd.ntmps46
    go_wp2_with fail
    rw [← HXB.out]
    generalize w.alloc (.cells #[.int .i64 3, .string ⟨name.toArray⟩, .int .i64 (off : Int), .slice X data.length cx] 73) = w1 at *
    obtain ⟨ob, hrun, hm4⟩ := run_mapDelete (P := Tryd.prog) strLaw HM1.out Tryd.underlying67 name 0 9
    have HRUN : (Builtin.delete_ #[67, 9] 0 #[.map (some m), .string ⟨name.toArray⟩]).run Tryd.prog w1 = .ok (.tuple #[]) (wset w1 m ob) := hrun
    have HM4 := Lib.hid hm4
    clear hrun hm4
    go_wp2_with fail
    rw [HRUN]
    simp only [Result.andThen_ok]
    go_wp2_with fail
    have HFIN : Hid (DoneF S m (fdel F name) w (.returned (.tuple #[])) (wset w1 m ob)) := Lib.hid ⟨rfl, FI.del HM4.out HT.out HF.out (.inl hnm) (fun A c l h => OBS.wset h HM1.out ob fun b hb => .inl hb), (HMODS.out _ hal).wset m (.inl rfl) ob⟩
    exact bodyPost_end (v := .tuple #[]) (by kernel_rfl) rfl HFIN.out
end Go.Proofs.YthdmnajcphaekaaDoor
