/- Vals: put together by merge.py of: Vals, I64, Conv, Blk. -/
import Derived.Test.YtjgonfnpfbifjaaGreatDoorMem
import Derived.Lib.SlBytesConst
import Derived.Laws.CopyOwn
/- 'append(s, x...)' for elements of one cell each. -/
namespace Go.Proofs.YtjgonfnpfbifjaaGreatDoor
open Go.RowKit

theorem OV.made0 (w : World) {base : Nat} (T : TypeId) (hb : base ≤ w.heap.size) : OV (w.alloc (.cells #[] T)) base T (some ⟨w.heap.size, 0, none⟩) 0 [] :=
  World.ownsRow_made w #[] 0 hb (Nat.zero_le _) rfl

/-- 'append(s, x...)', elements of one cell each, onto a row of the call's own. -/
theorem wp_appendV (w : World) {ops : Array Oper} {rest : List Oper} {o : Oper} {a : Act} {Q : Exit → Act → World → Prop} (hgd : o.guard = none) (s x : Operand) (t e : TypeId) {i : TypeInfo} {z : Value} {bytes : Nat}
    (ho : o.op = .call { callee := .builtin .append, args := #[s, x], argTypes := #[t, t] })
    (ht : Tryz.prog.underlying t = some (.slice e)) (hi : Tryz.prog.info? e = some i) (hz0 : i.zero = some z) (hz1 : i.size = 1) (hz2 : i.bytes = bytes) (hzs : z.cells.size = 1)
    (base : Nat) (A X : Option Addr) (c d : Nat) (xs zs : List Value) (hs : a.eval s = .slice A xs.length c) (hx : a.eval x = .slice X zs.length d)
    (hown : OV w base e A c xs) (hv : RV w X zs) (h1 : ∀ v ∈ zs, v.oneCell' = true) (hlen : (xs.length + zs.length) * bytes ≤ 140737488355328) (hl2 : xs.length + zs.length ≤ 140737488355328) (hbase : base ≤ w.heap.size)
    (h : ∀ (ys : List Value) (A' : Option Addr) (c' : Nat) (w' : World), Hid (ys = xs ++ zs) → ys.length ≤ xs.length + zs.length → xs.length + zs.length ≤ ys.length → OV w' base e A' c' ys → w.grownBy w' (Value.slice A xs.length c).ownBlock → (A'.map (·.block) = A.map (·.block) ∨ A'.map (·.block) = some w.heap.size) →
      wpList Tryz.prog ops Q rest (a.put o.dst (.slice A' ys.length c')) w') : wpList Tryz.prog ops Q (o :: rest) a w := by
  rcases Nat.eq_zero_or_pos zs.length with h0 | h0
  · have hm0 : zs = [] := List.eq_nil_of_length_eq_zero h0
    subst hm0
    refine wpList_plain hgd fun K hK => ?_
    have hrun : (Builtin.append_ #[t, t] o.type #[.slice A xs.length c, .slice X 0 d]).run Tryz.prog w = .ok (.slice A xs.length c) w := by
      rcases hown.form with ⟨rfl, rfl, rfl⟩ | ⟨g, rfl, _, _, hc, _⟩
      · rcases X with _ | X
        · simp [Builtin.append_, run_underlying ht, sizeOf, typeInfo, hi, Builtin.lenOf, Builtin.firstCells]
        · have hf := run_firstCells_some (P := Tryz.prog) w i.size 0 X 0 d [] (by simp) (by simp)
          simp [Builtin.append_, run_underlying ht, sizeOf, typeInfo, hi, Builtin.lenOf, hf]
      · rcases X with _ | X
        · simp [Builtin.append_, run_underlying ht, sizeOf, typeInfo, hi, Builtin.lenOf, Builtin.firstCells, hc, storeCells]
        · have hf := run_firstCells_some (P := Tryz.prog) w i.size 0 X 0 d [] (by simp) (by simp)
          simp [Builtin.append_, run_underlying ht, sizeOf, typeInfo, hi, Builtin.lenOf, hf, hc, storeCells]
    unfold Oper.wp
    simp only [List.length_nil] at hx
    simp only [execOp, ho, resolve, invoke, builtin, Sem.run_bind, Sem.run_pure, Result.andThen_ok, List.map_toArray, List.map_cons, List.map_nil, hs, hx, hrun]
    exact hK _ _ (h xs A c w (Lib.hid (by simp)) (by simp) (by simp) hown (World.grownBy.refl w _) (.inl rfl))
  · obtain ⟨b, off, rfl, hb, hc⟩ := hv.at_ h0
    have hadd : ∀ j, (⟨b, off, none⟩ : Addr).add j = ⟨b, off + j, none⟩ := by intro j; unfold Addr.add; split <;> simp_all
    refine wpList_append_own_at w hgd s x t ho base e i z 1 bytes ht hi hz0 hz1 hz2 hzs (by decide) _ xs.length xs hs hown ⟨b, off, none⟩ zs.length d zs hx (by simp) ?_ h1 (by unfold maxLen; omega) hlen hbase ?_
    · intro j u hu
      rw [hadd]
      exact hc j u hu
    · intro v' w' hown' hg _ hat
      obtain ⟨A', c', hv', hob⟩ := OV.of_own hown'
      subst hv'
      refine h _ _ _ _ (Lib.hid rfl) (by simp) (by simp) hob hg ?_
      rw [own_blk, own_blk] at hat
      exact hat
end Go.Proofs.YtjgonfnpfbifjaaGreatDoor
/- int64. -/
namespace Go.Proofs.YtjgonfnpfbifjaaGreatDoor
def I64 (n : Int) : Prop := -9223372036854775808 ≤ n ∧ n ≤ 9223372036854775807
theorem i64_of_wf {x : Int} (h : (Lit.int .i64 x).wf = true) : I64 x := by
  simp [Lit.wf, IntKind.min, IntKind.max, IntKind.signed, IntKind.bits] at h
  exact ⟨by omega, by omega⟩
end Go.Proofs.YtjgonfnpfbifjaaGreatDoor
/- Bytes as a string, strings put together. -/
namespace Go.Proofs.YtjgonfnpfbifjaaGreatDoor
open Go.RowKit

theorem fold_bytes (l : List UInt8) : ∀ s : ByteArray, (l.map fun x => (x.toNat : Int)).foldl (fun r n => r.push (UInt8.ofNat n.toNat)) s = ⟨(s.data.toList ++ l).toArray⟩ := by
  induction l with
  | nil => intro s; simp
  | cons x l ih =>
    intro s
    simp only [List.map_cons, List.foldl_cons, ih, Int.toNat_natCast]
    simp [ByteArray.push]

/-- 'string(b)' of bytes that are there. -/
theorem convB {W : World} {A : Option Addr} {l : List UInt8} (c : Nat) (h : RB W A l) :
    (convert 33 9 (.slice A l.length c)).run Tryz.prog W = .ok (.string ⟨l.toArray⟩) W := by
  rw [run_convert_bytes_string (P := Tryz.prog) W 33 9 5 A l.length c Tryz.underlying33 Tryz.underlying5 Tryz.underlying9]
  rcases A with _ | ad
  · have hl0 : l = [] := by
      rcases Nat.eq_zero_or_pos l.length with h0 | h0
      · exact List.eq_nil_of_length_eq_zero h0
      · obtain ⟨b, off, e, _⟩ := h.at_ h0; cases e
    subst hl0
    simp [Conv.bytesToString]
    rfl
  · have hcells : ∀ j v, (bcells l)[j]? = some v → W.cell? (ad.add j) = some v := by
      rcases Nat.eq_zero_or_pos l.length with h0 | h0
      · have hl0 : l = [] := List.eq_nil_of_length_eq_zero h0
        subst hl0
        simp [bcells]
      · obtain ⟨b, off, e, _, hcl⟩ := h.at_ h0
        injection e with e
        subst e
        intro j u hu
        rw [bcells_get] at hu
        obtain ⟨y, hy, rfl⟩ := Option.map_eq_some_iff.1 hu
        have hadd : (⟨b, off, none⟩ : Addr).add j = ⟨b, off + j, none⟩ := by unfold Addr.add; split <;> simp_all
        rw [hadd]
        exact hcl j y hy
    have hload := run_loadCells_list (P := Tryz.prog) W ad (bcells l) hcells
    rw [bcells_length] at hload
    have e : bcells l = (l.map fun x => (x.toNat : Int)).map (Value.int .u8) := by simp [bcells]
    rw [run_bytesToString W ad l.length c (l.map fun x => (x.toNat : Int)) (by rw [hload, e]), fold_bytes]
    simp

theorem concatB (x y : List UInt8) (h : x.length + y.length ≤ 9223372036854775807) (W : World) : (Op.stringOp .add ⟨x.toArray⟩ ⟨y.toArray⟩).run Tryz.prog W = .ok (.string ⟨(x ++ y).toArray⟩) W := by
  rw [run_string_add_sum W _ _ (by simp [ByteArray.size]; omega), ByteArray.mk_append_mk]
end Go.Proofs.YtjgonfnpfbifjaaGreatDoor
/- A variable of several cells in a block of its own: what its cells hold, that they may be written, what the block is behind a store. -/
namespace Go.Proofs.YtjgonfnpfbifjaaGreatDoor
open Go.RowKit

/-- Block g holds these cells, a variable of type T. -/
def Blk (w : World) (g : Nat) (T : TypeId) (cs : Array Value) : Prop := w.heap[g]? = some (.cells cs T (0, 0))

section
variable {w w' : World} {g : Nat} {T : TypeId} {cs : Array Value}
theorem Blk.new (w : World) (cs : Array Value) (T : TypeId) : Blk (w.alloc (.cells cs T)) w.heap.size T cs := heap_alloc_new w _
theorem Blk.lt (h : Blk w g T cs) : g < w.heap.size := lt_of_block h
theorem Blk.cell (h : Blk w g T cs) (j : Nat) {v : Value} (hv : cs[j]? = some v) : w.cell? ⟨g, j, none⟩ = some v := by
  rw [cell_of_row w g j cs T (0, 0) h]; exact hv
theorem Blk.free (h : Blk w g T cs) (j : Nat) : w.frozen? ⟨g, j, none⟩ = false := by simp [World.frozen?, show w.heap[g]? = _ from h]
theorem Blk.below {B : Nat} (h : Blk w g T cs) (hb : Below B w w') (hg : g < B) : Blk w' g T cs := by
  unfold Blk; rw [hb.block g hg]; exact h
theorem Blk.kept (h : Blk w g T cs) (hb : Below w.heap.size w w') : Blk w' g T cs := h.below hb h.lt
theorem Blk.grown {row : Option Nat} (h : Blk w g T cs) (hg : w.grownBy w' row) (hne : row ≠ some g) : Blk w' g T cs := by
  unfold Blk; rw [hg.block g h.lt (fun e => hne e.symm)]; exact h
theorem Blk.setRow (h : Blk w g T cs) (ds : Array Value) : Blk (w.setRow g ds) g T ds := setRow_heap w g cs ds T (0, 0) h
theorem Blk.setRow_other {k : Nat} (h : Blk w g T cs) (ds : Array Value) (hk : g ≠ k) : Blk (w.setRow k ds) g T cs := by
  unfold Blk; rw [Go.setRow_other w k g ds hk]; exact h
theorem Blk.setCell (h : Blk w g T cs) (j : Nat) (v : Value) : Blk (w.setCell ⟨g, j, none⟩ v) g T (cs.setIfInBounds j v) := by
  unfold Blk
  rw [setCell_eq_setRow w g j cs T (0, 0) v h]
  exact setRow_heap w g cs _ T (0, 0) h
theorem Blk.setCell_other {a : Addr} (h : Blk w g T cs) (v : Value) (hk : g ≠ a.block) : Blk (w.setCell a v) g T cs := by
  unfold Blk; rw [Below.heap_setCell w a v g hk]; exact h
theorem Blk.drewN (h : Blk w g T cs) (n : Nat) : Blk (w.drewN n) g T cs := h

theorem ownsRow_setRow {base k : Nat} {e : TypeId} {size : Nat} {v : Value} {n : Nat} {xs : List Value} (h : w.ownsRow base e size v n xs) (hk : v.ownBlock ≠ some k) (ds : Array Value) : (w.setRow k ds).ownsRow base e size v n xs := by
  obtain ⟨h1, h2⟩ := h
  refine ⟨h1, ?_⟩
  rcases h2 with h2 | ⟨g, cap, cur, hv, hg, hh, r⟩
  · exact Or.inl h2
  · subst hv
    exact Or.inr ⟨g, cap, cur, rfl, hg, by rw [Go.setRow_other w k g ds (fun e => hk (by simp [Value.ownBlock, e]))]; exact hh, r⟩
theorem OB.setRow {base k : Nat} {A : Option Addr} {c : Nat} {l : List UInt8} (h : OB w base A c l) (hk : A.map (·.block) ≠ some k) (ds : Array Value) : OB (w.setRow k ds) base A c l :=
  ownsRow_setRow h (by rw [own_blk]; exact hk) ds
theorem OB.setCell {base : Nat} {A : Option Addr} {c : Nat} {l : List UInt8} {a : Addr} (h : OB w base A c l) (hk : a.block < base) (v : Value) : OB (w.setCell a v) base A c l :=
  ownsRow_setCell_below h hk v
theorem OB.blk_ne {base k : Nat} {A : Option Addr} {c : Nat} {l : List UInt8} (h : OB w base A c l) (hk : k < base) : A.map (·.block) ≠ some k := by
  intro e
  have := (h.own_lt k (by rw [own_blk]; exact e)).1
  omega
theorem RB.setCell {a : Addr} {A : Option Addr} {l : List UInt8} (h : RB w A l) (hk : ∀ b off, 0 < l.length → A = some ⟨b, off, none⟩ → b ≠ a.block) (v : Value) : RB (w.setCell a v) A l :=
  h.keep (by simp [World.setCell]) fun b off hn e _ j => World.cell?_of_block (w := w) (Below.heap_setCell w a v b (hk b off hn e))
theorem RB.setRow {k : Nat} {A : Option Addr} {l : List UInt8} (h : RB w A l) (hk : ∀ b off, 0 < l.length → A = some ⟨b, off, none⟩ → b ≠ k) (ds : Array Value) : RB (w.setRow k ds) A l :=
  h.keep (by simp) fun b off hn e _ j => cell_setRow_other w k ds _ (hk b off hn e)
end
end Go.Proofs.YtjgonfnpfbifjaaGreatDoor
