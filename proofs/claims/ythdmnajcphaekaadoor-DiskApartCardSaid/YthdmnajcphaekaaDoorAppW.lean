/- 'append(s, y)', one byte onto bytes of the call's own, up to a wide length, and where the new bytes lie. -/
import Derived.Test.YthdmnajcphaekaaDoorMem
import Derived.Deep.DeepAppendWide
namespace Go.Proofs.YthdmnajcphaekaaDoor
open Go.RowKit

theorem run_append1W (w : World) (base : Nat) (A : Option Addr) (c g : Nat) (l : List UInt8) (y : UInt8) (ty : TypeId)
    (hown : OB w base A c l) (hv : w.cell? ⟨g, 0, none⟩ = some (.int .u8 (y.toNat : Int))) (hlen : l.length + 1 ≤ 220000000000000) (hbase : base ≤ w.heap.size) :
    ∃ (A' : Option Addr) (c' : Nat) (w' : World), (Builtin.append_ #[23, 23] ty #[.slice A l.length c, .slice (some ⟨g, 0, none⟩) 1 1]).run Tryd.prog w = .ok (.slice A' (l ++ [y]).length c') w' ∧
      OB w' base A' c' (l ++ [y]) ∧ w.grownBy w' (A.map (·.block)) ∧ (A'.map (·.block) = A.map (·.block) ∨ A'.map (·.block) = some w.heap.size) := by
  obtain ⟨i0, hi0, hz0, hz1, hz2⟩ := info_parts u8_info
  have hnews : ∀ j u, [(Value.int .u8 (y.toNat : Int))][j]? = some u → w.cell? ((⟨g, 0, none⟩ : Addr).add j) = some u := by
    intro j u hu
    have hj : j = 0 := by
      rcases Nat.eq_zero_or_pos j with h0 | h0
      · exact h0
      · obtain ⟨k, rfl⟩ : ∃ k, j = k + 1 := ⟨j - 1, by omega⟩
        simp at hu
    subst hj
    simp only [List.getElem?_cons_zero, Option.some.injEq] at hu
    subst hu
    simpa [Addr.add] using hv
  have h1 : ∀ u ∈ [(Value.int .u8 (y.toNat : Int))], u.oneCell' = true := by simp [Value.oneCell']
  obtain ⟨v', w', hr, h2, h3, _⟩ := run_append_own_wide (P := Tryd.prog) w base 23 ty 5 i0 _ 1 1 Tryd.underlying23 hi0 hz0 hz1 hz2 rfl (by decide) _ l.length (bcells l) hown ⟨g, 0, none⟩ 1 1 _ (by simp) hnews h1 (by unfold maxLen; omega) (by omega) hbase
  have e : bcells l ++ [.int .u8 (y.toNat : Int)] = bcells (l ++ [y]) := by rw [bcells_append]; rfl
  rw [e] at h2
  obtain ⟨A', c', hv', hob⟩ := OB.of_own h2
  subst hv'
  rw [own_blk] at h3
  refine ⟨A', c', w', hr, hob, h3, ?_⟩
  have hz1' : i0.size = 1 := hz1
  have hat : (Value.slice A' (l ++ [y]).length c').ownBlock = A.map (·.block) ∨ (Value.slice A' (l ++ [y]).length c').ownBlock = some w.heap.size := by
    rcases hown.2 with h0 | ⟨g0, cap, cur, hv0, _, hg, hnc, hcm, hcs, htake⟩
    · obtain ⟨h0, hl0⟩ := h0
      simp only [Value.slice.injEq] at h0
      obtain ⟨rfl, hl, rfl⟩ := h0
      have hl' : l = [] := List.eq_nil_of_length_eq_zero hl
      subst hl'
      have hr2 := run_append_nil (P := Tryd.prog) w 23 ty 5 i0 _ Tryd.underlying23 hi0 hz0 ⟨g, 0, none⟩ 1 1 [(Value.int .u8 (y.toNat : Int))] (by rw [hz1']; rfl) hnews (by omega) (by omega) (by rw [hz2]; omega)
      simp only [List.length_nil] at hr
      rw [hr] at hr2
      injection hr2 with hr2 _
      rw [hr2]
      exact .inr rfl
    · simp only [Value.slice.injEq] at hv0
      obtain ⟨rfl, _, rfl⟩ := hv0
      by_cases hroom : l.length + 1 ≤ c
      · have hr2 := run_append_room (P := Tryd.prog) w 23 ty 5 i0 Tryd.underlying23 hi0 g0 l.length c cur hg ⟨g, 0, none⟩ 1 1 [(Value.int .u8 (y.toNat : Int))] (by rw [hz1']; rfl) hnews h1 hroom (by rw [hz1', hcs]; simp; omega)
        rw [hr] at hr2
        injection hr2 with hr2 _
        rw [hr2]
        exact .inl rfl
      · have holds : ∀ j u, (bcells l)[j]? = some u → w.cell? ((⟨g0, 0, none⟩ : Addr).add j) = some u := World.ownsRow.cells (g := g0) hown rfl
        have hr2 := run_append_grow (P := Tryd.prog) w 23 ty 5 i0 _ Tryd.underlying23 hi0 hz0 ⟨g0, 0, none⟩ l.length c (bcells l) (by rw [hz1', bcells_length]; omega) holds ⟨g, 0, none⟩ 1 1 [(Value.int .u8 (y.toNat : Int))] (by rw [hz1']; rfl) hnews (by omega) (by omega) (by rw [hz2]; exact growslice_fits_wide (by omega) (by omega))
        rw [hr] at hr2
        injection hr2 with hr2 _
        rw [hr2]
        exact .inr rfl
  rw [own_blk] at hat
  exact hat

theorem wp_append1W (w : World) {ops : Array Oper} {rest : List Oper} {o : Oper} {a : Act} {Q : Exit → Act → World → Prop} (hgd : o.guard = none) (s x : Operand)
    (ho : o.op = .call { callee := .builtin .append, args := #[s, x], argTypes := #[23, 23] })
    (base : Nat) (A : Option Addr) (c g : Nat) (l : List UInt8) (y : UInt8) (hs : a.eval s = .slice A l.length c) (hx : a.eval x = .slice (some ⟨g, 0, none⟩) 1 1)
    (hown : OB w base A c l) (hv : w.cell? ⟨g, 0, none⟩ = some (.int .u8 (y.toNat : Int))) (hlen : l.length + 1 ≤ 220000000000000) (hbase : base ≤ w.heap.size)
    (h : ∀ (k : List UInt8) (A' : Option Addr) (c' : Nat) (w' : World), Hid (k = l ++ [y]) → k.length ≤ l.length + 1 → l.length + 1 ≤ k.length → OB w' base A' c' k → w.grownBy w' (A.map (·.block)) → (A'.map (·.block) = A.map (·.block) ∨ A'.map (·.block) = some w.heap.size) →
      wpList Tryd.prog ops Q rest (a.put o.dst (.slice A' k.length c')) w') : wpList Tryd.prog ops Q (o :: rest) a w := by
  refine wpList_plain hgd fun K hK => ?_
  obtain ⟨A', c', w', hr, h1, h2, h3⟩ := run_append1W w base A c g l y o.type hown hv hlen hbase
  unfold Oper.wp
  simp only [execOp, ho, resolve, invoke, builtin, Sem.run_bind, Sem.run_pure, Result.andThen_ok, List.map_toArray, List.map_cons, List.map_nil, hs, hx, hr]
  exact hK _ _ (h _ A' c' w' (Lib.hid rfl) (by simp) (by simp) h1 h2 h3)
end Go.Proofs.YthdmnajcphaekaaDoor
