/- 'append(s, x...)' for elements of one cell each. -/
import Derived.Test.YtcinohmhhglpjaaDoorMem
namespace Go.Proofs.YtcinohmhhglpjaaDoor
open Go.RowKit

theorem OV.made0 (w : World) {base : Nat} (T : TypeId) (hb : base ≤ w.heap.size) : OV (w.alloc (.cells #[] T)) base T (some ⟨w.heap.size, 0, none⟩) 0 [] :=
  World.ownsRow_made w #[] 0 hb (Nat.zero_le _) rfl

/-- 'append(s, x...)', elements of one cell each, onto a row of the call's own. -/
theorem wp_appendV (w : World) {ops : Array Oper} {rest : List Oper} {o : Oper} {a : Act} {Q : Exit → Act → World → Prop} (hgd : o.guard = none) (s x : Operand) (t e : TypeId) {i : TypeInfo} {z : Value} {bytes : Nat}
    (ho : o.op = .call { callee := .builtin .append, args := #[s, x], argTypes := #[t, t] })
    (ht : Tryd.prog.underlying t = some (.slice e)) (hi : Tryd.prog.info? e = some i) (hz0 : i.zero = some z) (hz1 : i.size = 1) (hz2 : i.bytes = bytes) (hzs : z.cells.size = 1)
    (base : Nat) (A X : Option Addr) (c d : Nat) (xs zs : List Value) (hs : a.eval s = .slice A xs.length c) (hx : a.eval x = .slice X zs.length d)
    (hown : OV w base e A c xs) (hv : RV w X zs) (h1 : ∀ v ∈ zs, v.oneCell' = true) (hlen : (xs.length + zs.length) * bytes ≤ 140737488355328) (hl2 : xs.length + zs.length ≤ 140737488355328) (hbase : base ≤ w.heap.size)
    (h : ∀ (ys : List Value) (A' : Option Addr) (c' : Nat) (w' : World), Hid (ys = xs ++ zs) → ys.length ≤ xs.length + zs.length → xs.length + zs.length ≤ ys.length → OV w' base e A' c' ys → w.grownBy w' (Value.slice A xs.length c).ownBlock → (A'.map (·.block) = A.map (·.block) ∨ A'.map (·.block) = some w.heap.size) →
      wpList Tryd.prog ops Q rest (a.put o.dst (.slice A' ys.length c')) w') : wpList Tryd.prog ops Q (o :: rest) a w := by
  rcases Nat.eq_zero_or_pos zs.length with h0 | h0
  · have hm0 : zs = [] := List.eq_nil_of_length_eq_zero h0
    subst hm0
    refine wpList_plain hgd fun K hK => ?_
    have hrun : (Builtin.append_ #[t, t] o.type #[.slice A xs.length c, .slice X 0 d]).run Tryd.prog w = .ok (.slice A xs.length c) w := by
      rcases hown.form with ⟨rfl, rfl, rfl⟩ | ⟨g, rfl, _, _, hc, _⟩
      · rcases X with _ | X
        · simp [Builtin.append_, run_underlying ht, sizeOf, typeInfo, hi, Builtin.lenOf, Builtin.firstCells]
        · have hf := run_firstCells_some (P := Tryd.prog) w i.size 0 X 0 d [] (by simp) (by simp)
          simp [Builtin.append_, run_underlying ht, sizeOf, typeInfo, hi, Builtin.lenOf, hf]
      · rcases X with _ | X
        · simp [Builtin.append_, run_underlying ht, sizeOf, typeInfo, hi, Builtin.lenOf, Builtin.firstCells, hc, storeCells]
        · have hf := run_firstCells_some (P := Tryd.prog) w i.size 0 X 0 d [] (by simp) (by simp)
          simp [Builtin.append_, run_underlying ht, sizeOf, typeInfo, hi, Builtin.lenOf, hf, hc, storeCells]
    unfold Oper.wp
    simp only [List.length_nil] at hx
    simp only [execOp, ho, resolve, invoke, builtin, Sem.run_bind, Sem.run_pure, Result.andThen_ok, List.map_toArray, List.map_cons, List.map_nil, hs, hx, hrun]
    exact hK _ _ (h xs A c w (Lib.hid (by simp)) (by simp) (by simp) hown (World.grownBy.refl w _) (.inl rfl))
  · obtain ⟨b, off, rfl, hb, hc⟩ := hv.at_ h0
    have hadd : ∀ j, (⟨b, off, none⟩ : Addr).add j = ⟨b, off + j, none⟩ := by intro j; unfold Addr.add; split <;> simp_all
    refine wpList_append_own_at w hgd s x t ho base e i z 1 bytes ht hi hz0 hz1 hz2 hzs (by decide) _ xs.length xs hs hown ⟨b, off, none⟩ zs.length d zs hx (by simp) ?_ h1 (by unfold maxLen; omega) hlen hbase ?_
    · intro j u hu
      rw [hadd]
      exact hc j u hu
    · intro v' w' hown' hg _ hat
      obtain ⟨A', c', hv', hob⟩ := OV.of_own hown'
      subst hv'
      refine h _ _ _ _ (Lib.hid rfl) (by simp) (by simp) hob hg ?_
      rw [own_blk, own_blk] at hat
      exact hat
end Go.Proofs.YtcinohmhhglpjaaDoor
