/- A writer: a strings.Builder in a block of the call's own; the block's type may be a struct that holds it alone. Contracts of the builder's calls at such a block; what they keep. -/
import Derived.Test.YtcinohmhhglpjaaDoorVals
import Derived.Lib.OthersKept
import Derived.Lib.AppendStr
import Derived.Lib.UnsafeStr
import Derived.Lib.Builder
import Derived.Laws.Externs
import Derived.Deep.QuietTactic
import Derived.BigQuiet
namespace Go.Proofs.YtcinohmhhglpjaaDoor
open Go.RowKit

/-- The types of block that a builder may lie in. -/
structure BT (T : TypeId) : Prop where
  ne : T ≠ 5
  lies : liesAt Tryd.prog Tryd.prog.depth T (2 / Tryd.prog.cellsOf T) 0 62 1 = true
theorem bt_builder : BT 62 := ⟨by decide, by kernel_rfl⟩
theorem bt_writer : BT 73 := ⟨by decide, by kernel_rfl⟩

/-- A builder in block b, with these bytes; its first cell is p. -/
def WA (w : World) (T : TypeId) (B b : Nat) (p : Value) (l : List UInt8) : Prop := B ≤ b ∧ ∃ A c, Blk w b T #[p, .slice A l.length c] ∧ OB w B A c l
/-- .. used, or fresh. -/
def WB (w : World) (T : TypeId) (B b : Nat) (l : List UInt8) : Prop := WA w T B b (.pointer none) l ∨ WA w T B b (.pointer (some ⟨b, 0, none⟩)) l
/-- What the builder's calls keep: what lies below B, and every block but b that is no row of bytes. -/
structure Kp (B b : Nat) (w w' : World) : Prop where
  below : Below B w w'
  others : Lib.OthersKept 5 (some b) w w'

section
variable {w a w' : World} {T U : TypeId} {B b : Nat} {p : Value} {l : List UInt8}
theorem Kp.refl (B b : Nat) (w : World) : Kp B b w w := ⟨Below.refl _ _, .refl _ _ _⟩
theorem Kp.trans (h : Kp B b w a) (k : Kp B b a w') : Kp B b w w' := ⟨h.below.trans k.below, h.others.trans k.others⟩
theorem Kp.of_below (h : Below w.heap.size w w') (hB : B ≤ w.heap.size) : Kp B b w w' :=
  ⟨h.mono hB, fun k o hk _ _ => by rw [h.block k (Array.getElem?_eq_some_iff.1 hk).1]; exact hk⟩
theorem Kp.alloc (h : Kp B b w a) (hB : B ≤ a.heap.size) (o : Obj) : Kp B b w (a.alloc o) := h.trans (.of_below ((Below.refl _ _).alloc (Nat.le_refl _) o) hB)
theorem Kp.size (h : Kp B b w w') : w.heap.size ≤ w'.heap.size := h.below.size
theorem Kp.drewN (h : Kp B b w a) (n : Nat) : Kp B b w (a.drewN n) := ⟨⟨h.below.os, h.below.tape, h.below.output, h.below.size, h.below.block⟩, h.others⟩
theorem Blk.kp {g : Nat} {cs : Array Value} (h : Blk w g U cs) (k : Kp B b w w') (hU : U ≠ 5) (hg : g ≠ b) : Blk w' g U cs :=
  k.others g _ h (fun e => hg (Option.some.inj e)) fun c fz e => by cases e; exact hU rfl
theorem WA.lt (h : WA w T B b p l) : b < w.heap.size := by obtain ⟨_, A, c, hb, _⟩ := h; exact hb.lt
theorem WA.cell0 (h : WA w T B b p l) : w.cell? ⟨b, 0, none⟩ = some p := by obtain ⟨_, A, c, hb, _⟩ := h; exact hb.cell 0 rfl
theorem WA.shape (h : WA w T B b p l) : w.shape? b = some (T, 2) := by obtain ⟨_, A, c, hb, _⟩ := h; simp [World.shape?, show w.heap[b]? = _ from hb]
theorem WA.frozen0 (h : WA w T B b p l) : w.frozen? ⟨b, 0, none⟩ = false := by obtain ⟨_, A, c, hb, _⟩ := h; exact hb.free 0
theorem OB.ne_blk {A : Option Addr} {c g : Nat} {cs : Array Value} (h : OB w B A c l) (hb : Blk w g T cs) (hT : T ≠ 5) : A.map (·.block) ≠ some g := by
  rcases h.2 with ⟨hv, _⟩ | ⟨g', cap, cur, hv, _, hg, _⟩
  · injection hv with h1 _ _; subst h1; simp
  · injection hv with h1 _ _; subst h1
    intro e
    have e' : g' = g := by simpa using e
    subst e'
    have hb' : w.heap[g']? = _ := hb
    rw [hg] at hb'
    injection hb' with hb'
    injection hb' with _ ht
    exact hT ht.symm
theorem WA.used (h : WA w T B b p l) (hT : T ≠ 5) (q : Value) : WA (w.setCell ⟨b, 0, none⟩ q) T B b q l := by
  obtain ⟨hB, A, c, hb, ho⟩ := h
  have hne := ho.ne_blk hb hT
  refine ⟨hB, A, c, hb.setCell 0 q, ?_⟩
  rw [setCell_eq_setRow w b 0 _ T (0, 0) q hb]
  exact ho.setRow hne _
theorem WA.below (h : WA w T B b p l) (hb : Below w.heap.size w w') : WA w' T B b p l := by
  obtain ⟨hB, A, c, hk, ho⟩ := h
  exact ⟨hB, A, c, hk.kept hb, ho.below hb⟩
theorem WB.below (h : WB w T B b l) (hb : Below w.heap.size w w') : WB w' T B b l := h.elim (fun x => .inl (x.below hb)) (fun x => .inr (x.below hb))
theorem WB.of (h : WA w T B b (.pointer (some ⟨b, 0, none⟩)) l) : WB w T B b l := .inr h
theorem WB.alloc (h : WB w T B b l) (o : Obj) : WB (w.alloc o) T B b l := h.below ((Below.refl _ _).alloc (Nat.le_refl _) o)
theorem WB.drewN (h : WB w T B b l) (n : Nat) : WB (w.drewN n) T B b l := h
theorem WB.form (h : WB w T B b l) : B ≤ b ∧ ∃ p A c, Blk w b T #[p, .slice A l.length c] ∧ OB w B A c l := by
  rcases h with ⟨hB, A, c, h1, h2⟩ | ⟨hB, A, c, h1, h2⟩
  · exact ⟨hB, _, A, c, h1, h2⟩
  · exact ⟨hB, _, A, c, h1, h2⟩
theorem WB.lt (h : WB w T B b l) : B ≤ b ∧ b < w.heap.size := by obtain ⟨hB, p, A, c, h1, _⟩ := h.form; exact ⟨hB, h1.lt⟩
theorem WB.new (w : World) (T : TypeId) {B : Nat} (hB : B ≤ w.heap.size) : WB (w.alloc (.cells #[.pointer none, .slice none 0 0] T)) T B w.heap.size [] :=
  .inl ⟨hB, none, 0, Blk.new _ _ _, OB.nil _ _⟩
theorem Kp.base_le {B' : Nat} (h : Kp B b w w') (hB : B' ≤ B) : Kp B' b w w' := ⟨h.below.mono hB, h.others⟩
/-- A builder that the call itself has laid is nothing to the caller. -/
theorem Kp.own (h : Kp B b w w') (hb : a.heap.size ≤ b) (h0 : Below a.heap.size a w) (hB : a.heap.size ≤ B) : Below a.heap.size a w' := h0.trans (h.below.mono hB)
end

theorem builder_info : (Tryd.prog.info? 62).map (·.size) = some 2 := by kernel_rfl

set_option maxRecDepth 20000 in
set_option maxHeartbeats 2000000 in
theorem checkUsed (b : Nat) (w : World) (h0 : w.cell? ⟨b, 0, none⟩ = some (.pointer (some ⟨b, 0, none⟩))) :
    Calls Tryd.prog 58 #[.pointer (some ⟨b, 0, none⟩)] w fun e w' => e = .returned (.tuple #[]) ∧ w' = w := by
  obtain ⟨j, hj, _⟩ := Option.map_eq_some_iff.1 builder_info
  go_enter Tryd.func58, Tryd.ntmps58
  go_wp2
  rw [Lib.run_neq_ptr_same w _ Tryd.underlying59 hj]
  go_wp2
  go_end0
  exact ⟨rfl, rfl⟩

set_option maxRecDepth 20000 in
set_option maxHeartbeats 2000000 in
theorem checkFresh (T : TypeId) (hT : BT T) (b : Nat) (w : World) (h0 : w.cell? ⟨b, 0, none⟩ = some (.pointer none)) (hsh : w.shape? b = some (T, 2)) (hfz : w.frozen? ⟨b, 0, none⟩ = false) :
    Calls Tryd.prog 58 #[.pointer (some ⟨b, 0, none⟩)] w fun e w' => e = .returned (.tuple #[]) ∧ w' = w.setCell ⟨b, 0, none⟩ (.pointer (some ⟨b, 0, none⟩)) := by
  obtain ⟨j, hj, hjs⟩ := Option.map_eq_some_iff.1 builder_info
  go_enter Tryd.func58, Tryd.ntmps58
  go_wp2
  rw [Lib.run_to_unsafe w ⟨b, 0, none⟩ Tryd.underlying59 Tryd.underlying130 hj (by rw [hjs]; decide) hsh (Nat.zero_lt_succ 1)]
  simp only [Result.andThen]
  rw [Oper.upon_value]
  go_wp2
  rw [run_callFunc_extern Tryd.func73 (by kernel_rfl) (by kernel_rfl) (by kernel_rfl) (e := Extern.AbiNoEscape.same) (by kernel_rfl)]
  rw [Lib.run_noEscape]
  simp only [Result.andThen]
  rw [Oper.upon_value]
  go_wp2
  rw [Lib.run_from_unsafe w ⟨b, 0, none⟩ Tryd.underlying130 Tryd.underlying59 hj hsh hT.lies]
  simp only [Result.andThen]
  rw [Oper.upon_value]
  go_wp2
  go_end0
  exact ⟨rfl, rfl⟩

theorem checkW (T : TypeId) (hT : BT T) (B b : Nat) (l : List UInt8) (w : World) (h : WB w T B b l) :
    Calls Tryd.prog 58 #[.pointer (some ⟨b, 0, none⟩)] w fun e w' => e = .returned (.tuple #[]) ∧ WA w' T B b (.pointer (some ⟨b, 0, none⟩)) l ∧ Kp B b w w' := by
  rcases h with h | h
  · refine (checkFresh T hT b w h.cell0 h.shape h.frozen0).mono ?_
    rintro e w' ⟨rfl, rfl⟩
    exact ⟨rfl, h.used hT.ne _, (Below.refl B w).setCell (p := ⟨b, 0, none⟩) h.1 _, (Lib.OthersKept.refl _ _ w).setCell ⟨b, 0, none⟩ rfl _⟩
  · refine (checkUsed b w h.cell0).mono ?_
    rintro e w' ⟨rfl, rfl⟩
    exact ⟨rfl, h, .refl _ _ _⟩

set_option maxRecDepth 20000 in
set_option maxHeartbeats 2000000 in
theorem lenW (T : TypeId) (B b : Nat) (l : List UInt8) (w : World) (h : WB w T B b l) :
    Calls Tryd.prog 24 #[.pointer (some ⟨b, 0, none⟩)] w fun e w' => e = .returned (.int .i64 l.length) ∧ w' = w := by
  obtain ⟨hB, p, A, c, hb, ho⟩ := h.form
  have c1 := hb.cell 1 rfl
  go_enter Tryd.func24, Tryd.ntmps24
  go_wp2
  go_ret
  exact ⟨rfl, rfl⟩

/-- An append to the buffer, laid back into the builder. -/
theorem WA.put {w w1 w2 : World} {T : TypeId} {B b c c' : Nat} {p : Value} {A A' : Option Addr} {l k : List UInt8} (hT : T ≠ 5) (hB : B ≤ b) (hb : Blk w1 b T #[p, .slice A l.length c]) (ho : OB w1 B A c l) (hg : w1.grownBy w2 (Value.slice A l.length c).ownBlock)
    (hk : Kp B b w w1) (ho2 : OB w2 B A' c' k) (hBw : B ≤ w.heap.size) :
    WA (w2.setCell ⟨b, 1, none⟩ (.slice A' k.length c')) T B b p k ∧ Kp B b w (w2.setCell ⟨b, 1, none⟩ (.slice A' k.length c')) := by
  have hne := ho.ne_blk hb hT
  have hb2 : Blk w2 b T #[p, .slice A l.length c] := hb.grown hg (by rw [own_blk]; exact hne)
  have hne2 := ho2.ne_blk hb2 hT
  refine ⟨⟨hB, A', c', hb2.setCell 1 _, ?_⟩, (hk.below.grown hg (by have := hk.size; omega) (fun k hk => (ho.own_lt k hk).1)).setCell (p := ⟨b, 1, none⟩) hB _, (hk.others.grown hg ?_).setCell ⟨b, 1, none⟩ rfl _⟩
  · rw [setCell_eq_setRow w2 b 1 _ T (0, 0) _ hb2]
    exact ho2.setRow hne2 _
  · intro g hgg
    rcases ho.2 with ⟨hv, _⟩ | ⟨g', cap, cur, hv, _, hg', _⟩
    · rw [hv] at hgg; simp [Value.ownBlock] at hgg
    · rw [hv] at hgg
      simp [Value.ownBlock] at hgg
      subst hgg
      exact ⟨cur, _, hg'⟩

set_option maxRecDepth 20000 in
set_option maxHeartbeats 2000000 in
theorem writeByteW (T : TypeId) (hT : BT T) (B b : Nat) (l : List UInt8) (x : UInt8) (V : Int) (w : World) (h : WB w T B b l) (hlen : l.length + 1 ≤ 140737488355328) (hBw : B ≤ w.heap.size) (hV : V = (x.toNat : Int)) :
    Calls Tryd.prog 59 #[.pointer (some ⟨b, 0, none⟩), .int .u8 V] w fun e w' => e = .returned .nilIface ∧ WB w' T B b (l ++ [x]) ∧ Kp B b w w' := by
  subst hV
  go_enter Tryd.func59, Tryd.ntmps59
  go_wp2_with (go_at_call 58; refine (checkW T hT B b l _ h).mono ?_)
  rintro e w1 ⟨rfl, h1, hk1⟩
  obtain ⟨hB, A, c, hb, ho⟩ := h1
  have c1 := hb.cell 1 rfl
  have hs1 := hk1.size
  go_wp2_with (at_builtin; refine wp_appendB _ rfl _ _ rfl B A (some ⟨w1.heap.size, 0, none⟩) c 1 l [x] rfl rfl (ho.alloc _) (RB.one w1 x rfl) (by simp; omega) (by simp; omega) ?_)
  intro k A' c' w2 hk _ _ ho2 hg
  have hb1' : Blk (w1.alloc (.cells #[.int .u8 (x.toNat : Int)] 5)) b T #[.pointer (some ⟨b, 0, none⟩), .slice A l.length c] := hb.kept ((Below.refl _ _).alloc (Nat.le_refl _) _)
  obtain ⟨hW, hK⟩ := WA.put (w := w) hT.ne hB hb1' (ho.alloc _) hg (hk1.alloc (by omega) _) ho2 hBw
  have hb2 : Blk w2 b T #[.pointer (some ⟨b, 0, none⟩), .slice A l.length c] := hb1'.grown hg (by rw [own_blk]; exact (ho.alloc _).ne_blk hb1' hT.ne)
  have d1 := hb2.cell 1 rfl
  have f1 := hb2.free 1
  go_wp2
  go_ret
  rw [← hk.out]
  exact ⟨rfl, .inr hW, hK⟩

theorem strCells_mk (l : List UInt8) : Lib.strCells ⟨l.toArray⟩ = bcells l := by simp [Lib.strCells, bcells]

set_option maxRecDepth 20000 in
set_option maxHeartbeats 2000000 in
theorem writeStringW (T : TypeId) (hT : BT T) (B b : Nat) (l s : List UInt8) (w : World) (h : WB w T B b l) (hlen : l.length + s.length ≤ 140737488355328) (hBw : B ≤ w.heap.size) :
    Calls Tryd.prog 22 #[.pointer (some ⟨b, 0, none⟩), .string ⟨s.toArray⟩] w fun e w' => e = .returned (.tuple #[.int .i64 s.length, .nilIface]) ∧ WB w' T B b (l ++ s) ∧ Kp B b w w' := by
  obtain ⟨i0, hi, hz0, hz1, hz2⟩ := info_parts u8_info
  go_enter Tryd.func22, Tryd.ntmps22
  go_wp2_with (go_at_call 58; refine (checkW T hT B b l _ h).mono ?_)
  rintro e w1 ⟨rfl, h1, hk1⟩
  obtain ⟨hB, A, c, hb, ho⟩ := h1
  have c1 := hb.cell 1 rfl
  have hs1 := hk1.size
  have hsz : (⟨s.toArray⟩ : ByteArray).size = s.length := by simp [ByteArray.size]
  go_wp2_with (at_builtin; refine Lib.wpList_append_own_string _ rfl _ _ 60 9 rfl B 5 i0 Tryd.underlying60 Tryd.underlying9 hi hz0 hz1 hz2 _ _ _ rfl ho ⟨s.toArray⟩ rfl ?c3 ?c4 ?c5 ?_)
  case c3 => rw [hsz]; unfold maxLen; omega
  case c4 => rw [hsz]; omega
  case c5 => omega
  intro v' w2 hown' hg _
  rw [strCells_mk, ← bcells_append] at hown'
  obtain ⟨A', c', hv, ho2⟩ := OB.of_own hown'
  subst hv
  obtain ⟨hW, hK⟩ := WA.put (w := w) hT.ne hB hb ho hg hk1 ho2 hBw
  have hb2 : Blk w2 b T #[.pointer (some ⟨b, 0, none⟩), .slice A l.length c] := hb.grown hg (by rw [own_blk]; exact ho.ne_blk hb hT.ne)
  have d1 := hb2.cell 1 rfl
  have f1 := hb2.free 1
  go_wp2
  go_ret2
  rw [List.length_append] at hW hK
  exact ⟨rfl, .inr hW, hK⟩

set_option maxRecDepth 20000 in
set_option maxHeartbeats 2000000 in
theorem stringW (T : TypeId) (B b : Nat) (l : List UInt8) (w : World) (h : WB w T B b l) (h0 : l ≠ []) :
    Calls Tryd.prog 25 #[.pointer (some ⟨b, 0, none⟩)] w fun e w' => e = .returned (.string ⟨l.toArray⟩) ∧ Below B w w' := by
  obtain ⟨hB, p, A, c, hb, ho⟩ := h.form
  have hl0 : l.length ≠ 0 := by simpa using h0
  obtain ⟨g, cur, rfl, hbg, hg, hnc, hcm, hcs⟩ : ∃ g cur, A = some ⟨g, 0, none⟩ ∧ B ≤ g ∧ w.heap[g]? = some (.cells cur 5 (0, 0)) ∧ l.length ≤ c ∧ c ≤ maxLen ∧ cur.size = c * 1 := by
    rcases ho.2 with ⟨_, hz⟩ | ⟨g, cap, cur, hv, h1, h2, h3, h4, h5, _⟩
    · exact absurd hz hl0
    · injection hv with e1 _ e3
      subst e3
      exact ⟨g, cur, e1, h1, h2, h3, h4, h5⟩
  have c1 : w.drew.cell? ⟨b, 1, none⟩ = some (.slice (some ⟨g, 0, none⟩) l.length c) := hb.cell 1 rfl
  have hSD : (Builtin.unsafeSliceData_ #[60] 107 #[.slice (some ⟨g, 0, none⟩) l.length c]).run Tryd.prog w.drew = .ok (.pointer (some ⟨g, 0, none⟩)) w.drew :=
    Lib.run_unsafeSliceData_row _ _ _ _ _ _ (by omega)
  have hUS : (Builtin.unsafeString_ #[107, 3] 9 #[.pointer (some ⟨g, 0, none⟩), .int .i64 l.length]).run Tryd.prog w.drew = .ok (.string ⟨l.toArray⟩) (w.drew.freeze ⟨g, 0, none⟩ l.length) := by
    refine Lib.run_unsafeString_row w.drew 107 3 9 5 Tryd.underlying107 (by kernel_rfl) g cur.size (by have hg' : w.drew.heap[g]? = some (.cells cur 5 (0, 0)) := hg; simp [World.shape?, hg']) l h0 (by omega) (by unfold maxLen at hcm; omega) ?_
    intro j x hx
    have hj : j < l.length := (List.getElem?_eq_some_iff.1 hx).1
    have := World.ownsRow.cellAt ho j (by omega)
    rw [bcells_get, hx] at this
    have hadd : (⟨g, 0, none⟩ : Addr).add j = ⟨g, j, none⟩ := by unfold Addr.add; split <;> simp_all
    rw [hadd]
    exact this
  go_enter Tryd.func25, Tryd.ntmps25
  go_wp2
  go_region
  all_goals (go_wp2; go_ret; exact ⟨rfl, Lib.below_freeze (Below.drew (Below.refl B w)) (p := ⟨g, 0, none⟩) hbg _⟩)
end Go.Proofs.YtcinohmhhglpjaaDoor
