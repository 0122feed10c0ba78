/- '[]byte(s)': a row of bytes of the call's own, with a mark behind its last cell; appending to it, a string or one byte. -/
import Derived.Test.YtcinohmhhglpjaaDoorMem
import Derived.Lib.AppendStr
import Derived.Laws.IdiomStrings
namespace Go.Proofs.YtcinohmhhglpjaaDoor
open Go.RowKit

/-- Cells written into a row of which nothing is frozen but what lies behind its last cell. -/
theorem storeCellsM (P : Program) (g o : Nat) (t : TypeId) (fz : Nat × Nat) : ∀ (vs : List Value) (i : Nat) (cur : Array Value) (w : World), w.heap[g]? = some (.cells cur t fz) → cur.size ≤ fz.1 → o + i + vs.length ≤ cur.size → (∀ v ∈ vs, v.oneCell' = true) →
    (storeCells ⟨g, o, none⟩ vs i).run P w = .ok () (w.setRow g (cur.toList.take (o + i) ++ vs ++ cur.toList.drop (o + i + vs.length)).toArray)
  | [], i, cur, w, hg, _, _, _ => by
    simp only [storeCells, List.append_nil, List.length_nil, Nat.add_zero, List.take_append_drop, Array.toArray_toList]
    rw [setRow_self w g cur t fz hg]
    rfl
  | v :: rest, i, cur, w, hg, hfz, hl, h1 => by
    have hi : o + i < cur.size := by simp at hl; omega
    have hadd : (⟨g, o, none⟩ : Addr).add i = ⟨g, o + i, none⟩ := by unfold Addr.add; split <;> simp_all
    have hcell : w.cell? ⟨g, o + i, none⟩ = some cur[o + i] := by simp [World.cell?, hg, hi]
    have hfro : w.frozen? ⟨g, o + i, none⟩ = false := by
      obtain ⟨lo, hi'⟩ := fz
      simp only [World.frozen?, hg, Bool.and_eq_false_iff, decide_eq_false_iff_not]
      left
      simp only at hfz
      omega
    have hst : (store ((⟨g, o, none⟩ : Addr).add i) v).run P w = .ok () (w.setRow g (cur.setIfInBounds (o + i) v)) := by
      rw [hadd, run_store P w _ v _ (h1 v (by simp)), hcell]
      simp [hfro, setCell_eq_setRow w g (o + i) cur t fz v hg]
    have ih := storeCellsM P g o t fz rest (i + 1) (cur.setIfInBounds (o + i) v) (w.setRow g (cur.setIfInBounds (o + i) v)) (setRow_heap w g cur _ t _ hg) (by simpa using hfz) (by simp at hl ⊢; omega) (fun x hx => h1 x (by simp [hx]))
    simp only [storeCells, Sem.run_bind, hst, Result.andThen_ok, ih, setRow_setRow]
    congr 3
    have e := list_seg_step cur.toList (o + i) v rest (by simp at hl ⊢; omega)
    simpa [Array.toList_setIfInBounds, Nat.add_assoc] using e

/-- A row of bytes of the call's own; it may bear the mark. -/
def OM (w : World) (base : Nat) (A : Option Addr) (c : Nat) (l : List UInt8) : Prop := OB w base A c l ∨
  ∃ g cur, A = some ⟨g, 0, none⟩ ∧ base ≤ g ∧ w.heap[g]? = some (.cells cur 5 (cur.size, cur.size + 1)) ∧ l.length ≤ c ∧ c ≤ maxLen ∧ cur.size = c ∧ cur.toList.take l.length = bcells l
section
variable {w w' : World} {base c : Nat} {A : Option Addr} {l : List UInt8}
theorem OM.below (h : OM w base A c l) (hb : Below w.heap.size w w') : OM w' base A c l := by
  rcases h with h | ⟨g, cur, h1, h2, h3, r⟩
  · exact .inl (h.below hb)
  · exact .inr ⟨g, cur, h1, h2, by rw [hb.block g (Array.getElem?_eq_some_iff.1 h3).1]; exact h3, r⟩
theorem OM.own_lt (h : OM w base A c l) : ∀ k, (Value.slice A l.length c).ownBlock = some k → base ≤ k ∧ k < w.heap.size := by
  rcases h with h | ⟨g, cur, h1, h2, h3, r⟩
  · exact h.own_lt
  · intro k hk
    subst h1
    simp [Value.ownBlock] at hk
    subst hk
    exact ⟨h2, (Array.getElem?_eq_some_iff.1 h3).1⟩
theorem OM.rb (h : OM w base A c l) : RB w A l := by
  rcases h with h | ⟨g, cur, h1, h2, h3, h4, h5, h6, h7⟩
  · exact h.rb
  · refine ⟨fun hn => ⟨g, 0, h1, (Array.getElem?_eq_some_iff.1 h3).1, fun j x hx => ?_⟩⟩
    rw [Nat.zero_add, cell_of_row w g j cur _ _ h3]
    have hj : j < l.length := (List.getElem?_eq_some_iff.1 hx).1
    have e := congrArg (·[j]?) h7
    simp only [List.getElem?_take, if_pos hj, bcells_get, hx, Option.map_some] at e
    simpa using e
theorem OM.gb {w0 : World} (hg : w.grownBy w' (Value.slice A l.length c).ownBlock) (h : OM w base A c l) (hb : Below base w0 w) (hB : base ≤ w.heap.size) : Below base w0 w' :=
  hb.grown hg hB (fun k hk => (h.own_lt k hk).1)
theorem bytesRow_size (l : List UInt8) (cap : Nat) (h : l.length ≤ cap) : (bytesRow ⟨l.toArray⟩ cap).size = cap := by
  unfold bytesRow
  simp [ByteArray.size]
  omega
end

/-- '[]byte(s)'. -/
theorem strBytes (W : World) (l : List UInt8) (hl : l.length ≤ 140737488355328) : ∃ c W', (convert 9 60 (.string ⟨l.toArray⟩)).run Tryd.prog W = .ok (.slice (some ⟨W.heap.size, 0, none⟩) l.length c) W' ∧ OM W' W.heap.size (some ⟨W.heap.size, 0, none⟩) c l ∧ Below W.heap.size W W' := by
  have hsz : (⟨l.toArray⟩ : ByteArray).size = l.length := by simp [ByteArray.size]
  have hr := run_bytes_of_string (P := Tryd.prog) W 9 60 5 ⟨l.toArray⟩ Tryd.underlying9 Tryd.underlying60 Tryd.underlying5
  rw [hsz] at hr
  have hge := grownCap_ge W l.length 0 5
  have hle := grownCap_le_maxLen W l.length 0 5 (by unfold maxLen; omega)
  have hbs := bytesRow_size l _ hge
  refine ⟨_, _, hr, .inr ⟨W.heap.size, _, rfl, Nat.le_refl _, heap_alloc_new W.drew _, hge, hle, hbs, ?_⟩, (Below.refl _ _).drew.alloc (Nat.le_refl _) _⟩
  unfold bytesRow
  rw [Array.toList_append, List.take_append_of_le_length (by simp)]
  rw [List.take_of_length_le (by simp)]
  simp [bcells]

theorem appendM_room (w : World) (g c : Nat) (cur : Array Value) (l m : List UInt8) (hg : w.heap[g]? = some (.cells cur 5 (cur.size, cur.size + 1))) (hc : cur.size = c) (hm : c ≤ maxLen) (ht : cur.toList.take l.length = bcells l) (hroom : l.length + m.length ≤ c) :
    (storeCells ⟨g, l.length, none⟩ (bcells m) 0).run Tryd.prog w = .ok () (w.setRow g (cur.toList.take l.length ++ bcells m ++ cur.toList.drop (l.length + m.length)).toArray) ∧
    ∀ base, base ≤ g → OM (w.setRow g (cur.toList.take l.length ++ bcells m ++ cur.toList.drop (l.length + m.length)).toArray) base (some ⟨g, 0, none⟩) c (l ++ m) := by
  have hst := storeCellsM Tryd.prog g l.length 5 _ (bcells m) 0 cur w hg (Nat.le_refl _) (by rw [bcells_length]; omega) (bcells_one m)
  simp only [Nat.add_zero, bcells_length] at hst
  refine ⟨hst, fun base hb => .inr ⟨g, (cur.toList.take l.length ++ bcells m ++ cur.toList.drop (l.length + m.length)).toArray, rfl, hb, ?_, by simp; omega, hm, ?_, ?_⟩⟩
  · have e : (cur.toList.take l.length ++ bcells m ++ cur.toList.drop (l.length + m.length)).toArray.size = cur.size := by
      simp only [List.size_toArray, List.length_append, List.length_take, List.length_drop, Array.length_toList, bcells_length]
      omega
    rw [e]
    exact setRow_heap w g cur _ _ _ hg
  · simp only [List.size_toArray, List.length_append, List.length_take, List.length_drop, Array.length_toList, bcells_length]
    omega
  · rw [ht, List.length_append]
    have e : l.length + m.length = (bcells l ++ bcells m).length := by simp [bcells_length]
    rw [e]
    simp only
    rw [List.take_left, bcells_append]

set_option maxHeartbeats 1000000 in
/-- 'append(b, s...)'. -/
theorem wp_appendMs (w : World) {ops : Array Oper} {rest : List Oper} {o : Oper} {a : Act} {Q : Exit → Act → World → Prop} (hgd : o.guard = none) (s x : Operand)
    (ho : o.op = .call { callee := .builtin .append, args := #[s, x], argTypes := #[60, 9] })
    (base : Nat) (A : Option Addr) (c : Nat) (l m : List UInt8) (hs : a.eval s = .slice A l.length c) (hx : a.eval x = .string ⟨m.toArray⟩)
    (hown : OM w base A c l) (hlen : l.length + m.length ≤ 140737488355328) (hbase : base ≤ w.heap.size)
    (h : ∀ (k : List UInt8) (A' : Option Addr) (c' : Nat) (w' : World), Hid (k = l ++ m) → k.length = l.length + m.length → OM w' base A' c' k → w.grownBy w' (Value.slice A l.length c).ownBlock →
      wpList Tryd.prog ops Q rest (a.put o.dst (.slice A' k.length c')) w') : wpList Tryd.prog ops Q (o :: rest) a w := by
  obtain ⟨i0, hi0, hz0, hz1, hz2⟩ := info_parts u8_info
  have hsz : (⟨m.toArray⟩ : ByteArray).size = m.length := by simp [ByteArray.size]
  have hsc : Lib.strCells ⟨m.toArray⟩ = bcells m := by simp [Lib.strCells, bcells]
  rcases hown with hown | ⟨g, cur, rfl, hbg, hg, hlc, hcm, hcs, htake⟩
  · refine Lib.wpList_append_own_string w hgd s x 60 9 ho base 5 i0 Tryd.underlying60 Tryd.underlying9 hi0 hz0 hz1 hz2 _ _ _ hs hown ⟨m.toArray⟩ hx (by rw [hsz]; unfold maxLen; omega) (by rw [hsz]; omega) hbase ?_
    intro v' w' hown' hg _
    rw [hsc, ← bcells_append] at hown'
    obtain ⟨A', c', hv, hob⟩ := OB.of_own hown'
    subst hv
    exact h _ _ _ _ (Lib.hid rfl) (by simp) (.inl hob) hg
  · obtain ⟨A', c', w', hr, hom, hgb⟩ : ∃ A' c' w', (Builtin.append_ #[60, 9] o.type #[.slice (some ⟨g, 0, none⟩) l.length c, .string ⟨m.toArray⟩]).run Tryd.prog w = .ok (.slice A' (l ++ m).length c') w' ∧ OM w' base A' c' (l ++ m) ∧ w.grownBy w' (some g) := by
      by_cases hroom : l.length + m.length ≤ c
      · obtain ⟨hst, hom⟩ := appendM_room w g c cur l m hg hcs hcm htake hroom
        have hf := Lib.run_firstCells_string (P := Tryd.prog) w 1 ⟨m.toArray⟩
        rw [hsc, hsz] at hf
        refine ⟨some ⟨g, 0, none⟩, c, _, ?_, hom base hbg, ⟨rfl, rfl, rfl, by simp, fun k _ hk => setRow_other w g k _ (fun e => hk (by simp [e]))⟩⟩
        have hroom' : l.length + (⟨m.toArray⟩ : ByteArray).size ≤ c := by rw [hsz]; exact hroom
        simp [Builtin.append_, run_underlying Tryd.underlying60, run_underlying Tryd.underlying9, sizeOf, typeInfo, hi0, hz1, Builtin.lenOf, hsz, hroom, hf, Addr.add_lit, hst]
      · have holds : ∀ j u, (bcells l)[j]? = some u → w.cell? ((⟨g, 0, none⟩ : Addr).add j) = some u := by
          intro j u hu
          have hj : j < l.length := by have := (List.getElem?_eq_some_iff.1 hu).1; rwa [bcells_length] at this
          rw [Addr.add_lit, Nat.zero_add, cell_of_row w g j cur _ _ hg]
          rw [← htake, List.getElem?_take, if_pos hj] at hu
          simpa using hu
        have hr := Lib.run_append_grow_string (P := Tryd.prog) w 60 9 o.type 5 i0 (.int .u8 0) Tryd.underlying60 Tryd.underlying9 hi0 hz0 ⟨g, 0, none⟩ l.length c (bcells l) (by rw [hz1, bcells_length]; omega) holds ⟨m.toArray⟩ (by rw [hsz]; omega) (by rw [hsz]; omega) (by rw [hz2, hsz]; exact growslice_fits (by omega) (by omega))
        rw [hsc, hsz] at hr
        have hob := ob_grown w (base := base) (cap := grownCap w (l.length + m.length) c 5) (l ++ m) hbase (by simpa using grownCap_ge w _ _ _) (grownCap_le_maxLen w _ _ _ (by unfold maxLen; omega))
        rw [bcells_append] at hob
        refine ⟨some ⟨w.heap.size, 0, none⟩, grownCap w (l.length + m.length) c 5, w.drew.alloc (.cells ((bcells l ++ bcells m).toArray ++ Builtin.zeroCells (Value.int .u8 0).cells (grownCap w (l.length + m.length) c 5 - (l ++ m).length)) 5), ?_, .inl hob, rfl, rfl, rfl, by simp, fun k hk _ => heap_alloc_old w.drew _ hk⟩
        rw [hr]
        simp
    refine wpList_plain hgd fun K hK => ?_
    unfold Oper.wp execOp
    simp only [ho, resolve, invoke, builtin, Sem.run_bind, Sem.run_pure, Result.andThen_ok, List.map_toArray, List.map_cons, List.map_nil, hs, hx, hr]
    exact hK _ _ (h _ _ _ w' (Lib.hid rfl) (by simp) hom hgb)

set_option maxRecDepth 20000 in
set_option maxHeartbeats 1000000 in
/-- 'append(b, y)'. -/
theorem wp_appendM1 (w : World) {ops : Array Oper} {rest : List Oper} {o : Oper} {a : Act} {Q : Exit → Act → World → Prop} (hgd : o.guard = none) (s x : Operand)
    (ho : o.op = .call { callee := .builtin .append, args := #[s, x], argTypes := #[60, 60] })
    (base : Nat) (A : Option Addr) (c g1 : Nat) (l : List UInt8) (y : UInt8) (hs : a.eval s = .slice A l.length c) (hx : a.eval x = .slice (some ⟨g1, 0, none⟩) 1 1)
    (hown : OM w base A c l) (hv : RB w (some ⟨g1, 0, none⟩) [y]) (hlen : l.length + 1 ≤ 140737488355328) (hbase : base ≤ w.heap.size)
    (h : ∀ (k : List UInt8) (A' : Option Addr) (c' : Nat) (w' : World), Hid (k = l ++ [y]) → k.length = l.length + 1 → OM w' base A' c' k → w.grownBy w' (Value.slice A l.length c).ownBlock →
      wpList Tryd.prog ops Q rest (a.put o.dst (.slice A' k.length c')) w') : wpList Tryd.prog ops Q (o :: rest) a w := by
  rcases hown with hown | ⟨g, cur, rfl, hbg, hg, hlc, hcm, hcs, htake⟩
  · refine wp_appendB w hgd s x ho base A (some ⟨g1, 0, none⟩) c 1 l [y] hs hx hown hv (by simp; omega) hbase ?_
    intro k A' c' w' hk h1 h2 hob hg
    exact h k A' c' w' hk (by simp at h1 h2; omega) (.inl hob) hg
  · obtain ⟨i0, hi0, hz0, hz1, hz2⟩ := info_parts u8_info
    have hnews : ∀ j u, (bcells [y])[j]? = some u → w.cell? ((⟨g1, 0, none⟩ : Addr).add j) = some u := by
      intro j u hu
      obtain ⟨b, off, e, hb, hc⟩ := hv.at_ (by simp)
      injection e with e
      injection e with e1 e2
      subst e1 e2
      rw [bcells_get] at hu
      obtain ⟨z, hz, rfl⟩ := Option.map_eq_some_iff.1 hu
      rw [Addr.add_lit]
      exact hc j z hz
    obtain ⟨A', c', w', hr, hom, hgb⟩ : ∃ A' c' w', (Builtin.append_ #[60, 60] o.type #[.slice (some ⟨g, 0, none⟩) l.length c, .slice (some ⟨g1, 0, none⟩) 1 1]).run Tryd.prog w = .ok (.slice A' (l ++ [y]).length c') w' ∧ OM w' base A' c' (l ++ [y]) ∧ w.grownBy w' (some g) := by
      by_cases hroom : l.length + 1 ≤ c
      · obtain ⟨hst, hom⟩ := appendM_room w g c cur l [y] hg hcs hcm htake hroom
        have hf := run_firstCells_some (P := Tryd.prog) w i0.size 1 ⟨g1, 0, none⟩ 1 1 (bcells [y]) (by rw [hz1]; rfl) hnews
        refine ⟨some ⟨g, 0, none⟩, c, _, ?_, hom base hbg, ⟨rfl, rfl, rfl, by simp, fun k _ hk => setRow_other w g k _ (fun e => hk (by simp [e]))⟩⟩
        simp only [hz1] at hf
        simp [Builtin.append_, run_underlying Tryd.underlying60, sizeOf, typeInfo, hi0, hz1, Builtin.lenOf, hroom, hf, Addr.add_lit, hst]
      · have holds : ∀ j u, (bcells l)[j]? = some u → w.cell? ((⟨g, 0, none⟩ : Addr).add j) = some u := by
          intro j u hu
          have hj : j < l.length := by have := (List.getElem?_eq_some_iff.1 hu).1; rwa [bcells_length] at this
          rw [Addr.add_lit, Nat.zero_add, cell_of_row w g j cur _ _ hg]
          rw [← htake, List.getElem?_take, if_pos hj] at hu
          simpa using hu
        have hr := run_append_grow (P := Tryd.prog) w 60 o.type 5 i0 _ Tryd.underlying60 hi0 hz0 ⟨g, 0, none⟩ l.length c (bcells l) (by rw [hz1, bcells_length]; omega) holds ⟨g1, 0, none⟩ 1 1 (bcells [y]) (by rw [hz1]; rfl) hnews (by omega) (by omega) (by rw [hz2]; exact growslice_fits_wide (by omega) (by omega))
        have hob := ob_grown w (base := base) (cap := grownCap w (l.length + 1) c 5) (l ++ [y]) hbase (by simpa using grownCap_ge w _ _ _) (grownCap_le_maxLen w _ _ _ (by unfold maxLen; omega))
        rw [bcells_append] at hob
        refine ⟨some ⟨w.heap.size, 0, none⟩, grownCap w (l.length + 1) c 5, w.drew.alloc (.cells ((bcells l ++ bcells [y]).toArray ++ Builtin.zeroCells (Value.int .u8 0).cells (grownCap w (l.length + 1) c 5 - (l ++ [y]).length)) 5), ?_, .inl hob, rfl, rfl, rfl, by simp, fun k hk _ => heap_alloc_old w.drew _ hk⟩
        rw [hr]
        simp
    refine wpList_plain hgd fun K hK => ?_
    unfold Oper.wp execOp
    simp only [ho, resolve, invoke, builtin, Sem.run_bind, Sem.run_pure, Result.andThen_ok, List.map_toArray, List.map_cons, List.map_nil, hs, hx, hr]
    exact hK _ _ (h _ _ _ w' (Lib.hid rfl) (by simp) hom hgb)
end Go.Proofs.YtcinohmhhglpjaaDoor
