/- append inside a region that is walked by a plan. -/
import Derived.Test.YtjgonfnpfbifjaaGreatDoorMem
import Derived.Test.YtjgonfnpfbifjaaGreatDoorPlanS
namespace Go.Proofs.YtjgonfnpfbifjaaGreatDoor
open Go.RowKit

/-- 'append(s, x)', one byte, onto a row of the call's own. -/
theorem op_append1B (w : World) {o : Oper} {a : Act} {K : Act → World → Prop} {Q : Exit → Act → World → Prop} (s x : Operand)
    (ho : o.op = .call { callee := .builtin .append, args := #[s, x], argTypes := #[33, 33] })
    (base : Nat) (A : Option Addr) (c g : Nat) (l : List UInt8) (y : UInt8) (hs : a.eval s = .slice A l.length c) (hx : a.eval x = .slice (some ⟨g, 0, none⟩) 1 1)
    (hown : OB w base A c l) (hv : w.cell? ⟨g, 0, none⟩ = some (.int .u8 (y.toNat : Int))) (hlen : l.length + 1 ≤ 140737488355328) (hbase : base ≤ w.heap.size)
    (h : ∀ (k : List UInt8) (A' : Option Addr) (c' : Nat) (w' : World), Hid (k = l ++ [y]) → k.length ≤ l.length + 1 → l.length + 1 ≤ k.length → OB w' base A' c' k → w.grownBy w' (Value.slice A l.length c).ownBlock →
      K (a.put o.dst (.slice A' k.length c')) w') : o.wp Tryz.prog a w K Q := by
  obtain ⟨i0, hi0, hz0, hz1, hz2⟩ := info_parts u8_info
  refine op_append w s x 33 ho base 5 i0 _ 1 1 Tryz.underlying33 hi0 hz0 hz1 hz2 rfl (by decide) _ l.length (bcells l) hs hown ⟨g, 0, none⟩ 1 1 [.int .u8 (y.toNat : Int)] hx (by simp) ?_ (by simp [Value.oneCell']) (by unfold maxLen; omega) (by omega) hbase ?_
  · intro j u hu
    have hj : j = 0 := by
      rcases Nat.eq_zero_or_pos j with h0 | h0
      · exact h0
      · obtain ⟨k, rfl⟩ : ∃ k, j = k + 1 := ⟨j - 1, by omega⟩
        simp at hu
    subst hj
    simp only [List.getElem?_cons_zero, Option.some.injEq] at hu
    subst hu
    simpa [Addr.add] using hv
  · intro v' w' hown' hg _
    have e : bcells l ++ [.int .u8 (y.toNat : Int)] = bcells (l ++ [y]) := by rw [bcells_append]; rfl
    rw [e] at hown'
    obtain ⟨A', c', hv', hob⟩ := OB.of_own hown'
    subst hv'
    exact h _ _ _ _ (Lib.hid rfl) (by simp) (by simp) hob hg
/-- 'append(s, x...)' on bytes of the call's own. -/
theorem op_appendB (w : World) {o : Oper} {a : Act} {K : Act → World → Prop} {Q : Exit → Act → World → Prop} (s x : Operand)
    (ho : o.op = .call { callee := .builtin .append, args := #[s, x], argTypes := #[33, 33] })
    (base : Nat) (A X : Option Addr) (c d : Nat) (l m : List UInt8) (hs : a.eval s = .slice A l.length c) (hx : a.eval x = .slice X m.length d)
    (hown : OB w base A c l) (hm : RB w X m) (hlen : l.length + m.length ≤ 140737488355328) (hbase : base ≤ w.heap.size)
    (h : ∀ (k : List UInt8) (A' : Option Addr) (c' : Nat) (w' : World), Hid (k = l ++ m) → k.length ≤ l.length + m.length → l.length + m.length ≤ k.length → OB w' base A' c' k → w.grownBy w' (Value.slice A l.length c).ownBlock →
      K (a.put o.dst (.slice A' k.length c')) w') : o.wp Tryz.prog a w K Q := by
  obtain ⟨i0, hi0, hz0, hz1, hz2⟩ := info_parts u8_info
  rcases Nat.eq_zero_or_pos m.length with h0 | h0
  · have hm0 : m = [] := List.eq_nil_of_length_eq_zero h0
    subst hm0
    have hrun : (Builtin.append_ #[33, 33] o.type #[.slice A l.length c, .slice X 0 d]).run Tryz.prog w = .ok (.slice A l.length c) w := by
      rcases hown.form with ⟨rfl, rfl, rfl⟩ | ⟨g, rfl, _, _, hc, _⟩
      · rcases X with _ | X
        · simp [Builtin.append_, run_underlying Tryz.underlying33, sizeOf, typeInfo, hi0, Builtin.lenOf, Builtin.firstCells]
        · have hf := run_firstCells_some (P := Tryz.prog) w i0.size 0 X 0 d [] (by simp) (by simp)
          simp [Builtin.append_, run_underlying Tryz.underlying33, sizeOf, typeInfo, hi0, Builtin.lenOf, hf]
      · rcases X with _ | X
        · simp [Builtin.append_, run_underlying Tryz.underlying33, sizeOf, typeInfo, hi0, Builtin.lenOf, Builtin.firstCells, hc, storeCells]
        · have hf := run_firstCells_some (P := Tryz.prog) w i0.size 0 X 0 d [] (by simp) (by simp)
          simp [Builtin.append_, run_underlying Tryz.underlying33, sizeOf, typeInfo, hi0, Builtin.lenOf, hf, hc, storeCells]
    unfold Oper.wp
    simp only [List.length_nil] at hx
    simp only [execOp, ho, resolve, invoke, builtin, Sem.run_bind, Sem.run_pure, Result.andThen_ok, List.map_toArray, List.map_cons, List.map_nil, hs, hx, hrun]
    exact h l A c w (Lib.hid (by simp)) (by simp) (by simp) hown (World.grownBy.refl w _)
  · obtain ⟨b, off, rfl, hb, hc⟩ := hm.at_ h0
    have hadd : ∀ j, (⟨b, off, none⟩ : Addr).add j = ⟨b, off + j, none⟩ := by intro j; unfold Addr.add; split <;> simp_all
    refine op_append w s x 33 ho base 5 i0 _ 1 1 Tryz.underlying33 hi0 hz0 hz1 hz2 rfl (by decide) _ l.length (bcells l) hs hown ⟨b, off, none⟩ m.length d (bcells m) hx (by simp [bcells]) ?_ (bcells_one m) (by unfold maxLen; omega) (by omega) hbase ?_
    · intro j u hu
      rw [bcells_get] at hu
      obtain ⟨y, hy, rfl⟩ := Option.map_eq_some_iff.1 hu
      rw [hadd]
      exact hc j y hy
    · intro v' w' hown' hg _
      rw [← bcells_append] at hown'
      obtain ⟨A', c', hv, hob⟩ := OB.of_own hown'
      subst hv
      exact h _ _ _ _ (Lib.hid rfl) (by simp) (by simp) hob hg
end Go.Proofs.YtjgonfnpfbifjaaGreatDoor
