/- 'for k, v := range m' over a map that is told by a list of keys and values; which entries are still to come is a list as well. -/
import Derived.Test.YtjgonfnpfbifjaaGreatDoorMapT
import Derived.Maps.RangeWalk
namespace Go.Proofs.YtjgonfnpfbifjaaGreatDoor
open Go.RowKit Go.MapKept

/-- A loop over the map at block m is under way, its iterator at block r; 'todo' is still to come. -/
def Ranging {K : Type} (kv : K → Value) (w : World) (m r : Nat) (es todo : List (K × Value)) : Prop :=
  ∃ (L : List (Ent K)) (clock since : Nat) (seen : Array Nat) (c0 : Nat), es = L.map (fun p => (p.1, p.2.1)) ∧ w.heap[m]? = some (.map (L.map (ent kv)).toArray clock) ∧ (L.map (·.1)).Nodup ∧ (L.map (·.2.2)).Nodup ∧ (∀ p ∈ L, p.2.2 < clock) ∧
    w.heap[r]? = some (.mapIter (some m) since seen c0) ∧ (∀ p ∈ L, p.2.2 < since) ∧ since ≤ c0 ∧ since ≤ clock ∧ todo = (L.filter fun p => !seen.contains p.2.2).map fun p => (p.1, p.2.1)

section
variable {K : Type} {kv : K → Value} {w w' : World} {m r : Nat} {es todo : List (K × Value)}
theorem Ranging.map (h : Ranging kv w m r es todo) : MapAt kv w m es := by
  obtain ⟨L, clock, since, seen, c0, he, hm, h1, h2, h3, _⟩ := h
  exact ⟨L, clock, he, hm, h1, h2, h3⟩
theorem Ranging.lt (h : Ranging kv w m r es todo) : r < w.heap.size := by
  obtain ⟨L, clock, since, seen, c0, _, _, _, _, _, hr, _⟩ := h
  exact lt_of_block hr
theorem Ranging.ne (h : Ranging kv w m r es todo) : r ≠ m := by
  obtain ⟨L, clock, since, seen, c0, _, hm, _, _, _, hr, _⟩ := h
  rintro rfl
  rw [hm] at hr
  cases hr
theorem Ranging.of_blocks (h : Ranging kv w m r es todo) (hm : w'.heap[m]? = w.heap[m]?) (hr : w'.heap[r]? = w.heap[r]?) : Ranging kv w' m r es todo := by
  obtain ⟨L, clock, since, seen, c0, he, h0, h1, h2, h3, h4, rest⟩ := h
  exact ⟨L, clock, since, seen, c0, he, by rw [hm]; exact h0, h1, h2, h3, by rw [hr]; exact h4, rest⟩
theorem Ranging.below (h : Ranging kv w m r es todo) (hb : Below w.heap.size w w') : Ranging kv w' m r es todo := h.of_blocks (hb.block m h.map.lt) (hb.block r h.lt)
theorem Ranging.mods {S : Nat → Prop} (h : Ranging kv w m r es todo) (k : Mods S w w') (hm : ¬ S m) (hr : ¬ S r) : Ranging kv w' m r es todo := h.of_blocks (k.block m h.map.lt hm) (k.block r h.lt hr)
theorem Ranging.left_eq (h : Ranging kv w m r es todo) : w.rangeLeft m r = todo.length := by
  obtain ⟨L, clock, since, seen, c0, he, hm, h1, h2, h3, hr, h4, h5, h6, rfl⟩ := h
  simp only [World.rangeLeft, hm, hr, leftOf]
  rw [← Array.length_toList, Array.toList_filter, List.length_map, List.filter_map, List.length_map]
  rfl
theorem Ranging.sub (h : Ranging kv w m r es todo) : todo.Sublist es := by
  obtain ⟨L, clock, since, seen, c0, rfl, hm, h1, h2, h3, hr, h4, h5, h6, rfl⟩ := h
  exact (List.filter_sublist (l := L)).map _
theorem Ranging.nodup (h : Ranging kv w m r es todo) : (todo.map Prod.fst).Nodup := (h.sub.map Prod.fst).nodup h.map.nodup
end

theorem filter_erase {α : Type} (p q : α → Bool) (b : α → Nat) (L : List α) (hn : (L.map b).Nodup) (x : α) (hx : x ∈ L) (hp : p x = true) (hq : ∀ y ∈ L, q y = (p y && !(b y == b x))) :
    ∃ i, (L.filter p)[i]? = some x ∧ L.filter q = (L.filter p).eraseIdx i := by
  induction L with
  | nil => cases hx
  | cons a L ih =>
    rw [List.map_cons, List.nodup_cons] at hn
    rcases List.mem_cons.1 hx with rfl | hx'
    · refine ⟨0, by rw [List.filter_cons_of_pos hp]; rfl, ?_⟩
      rw [List.filter_cons_of_pos hp, List.filter_cons_of_neg (by rw [hq x (by simp)]; simp), List.eraseIdx_cons_zero]
      refine List.filter_congr fun y hy => ?_
      rw [hq y (by simp [hy])]
      have : b y ≠ b x := fun e => hn.1 (by rw [← e]; exact List.mem_map.2 ⟨y, hy, rfl⟩)
      simp [this]
    · obtain ⟨i, h1, h2⟩ := ih hn.2 hx' (fun y hy => hq y (by simp [hy]))
      have hne : b a ≠ b x := fun e => hn.1 (by rw [e]; exact List.mem_map.2 ⟨x, hx', rfl⟩)
      have hqa : q a = p a := by rw [hq a (by simp)]; simp [hne]
      cases hpa : p a
      · refine ⟨i, by rw [List.filter_cons_of_neg (by simp [hpa])]; exact h1, ?_⟩
        rw [List.filter_cons_of_neg (by simp [hqa, hpa]), List.filter_cons_of_neg (by simp [hpa])]
        exact h2
      · refine ⟨i + 1, by rw [List.filter_cons_of_pos hpa]; simpa using h1, ?_⟩
        rw [List.filter_cons_of_pos (by rw [hqa]; exact hpa), List.filter_cons_of_pos hpa, List.eraseIdx_cons_succ, h2]

section
variable {K : Type} {P : Program} {T M E : TypeId} {kv : K → Value} {w : World} {m r : Nat} {es todo : List (K × Value)}
theorem run_rangeT (h : MapAt kv w m es) (hM : P.underlying M = some (.map T E)) : ∃ w', (Instr.range M (.map (some m))).run P w = .ok (.pointer (some ⟨w.heap.size, 0, none⟩)) w' ∧ Ranging kv w' m w.heap.size es es ∧ Below w.heap.size w w' ∧ w'.heap.size = w.heap.size + 1 := by
  have hlt := h.lt
  obtain ⟨L, clock, he, hm, h1, h2, h3⟩ := h
  have hb : Below w.heap.size w (w.alloc (.mapIter (some m) clock #[] clock)) := (Below.refl _ _).alloc (Nat.le_refl _) _
  refine ⟨_, run_range_map w M T E m _ clock hM hm, ⟨L, clock, clock, #[], clock, he, (hb.block m hlt).trans hm, h1, h2, h3, heap_alloc_new w _, h3, Nat.le_refl _, Nat.le_refl _, by rw [List.filter_eq_self.2 (by simp)]; exact he⟩, hb, by simp⟩

theorem run_nextT (h : Ranging kv w m r es todo) (ty : TypeId) :
    (todo = [] ∧ (Instr.next (.pointer (some ⟨r, 0, none⟩)) false ty).run P w = .ok (.tuple #[.bool false]) w) ∨
    ∃ (i : Nat) (k : K) (v : Value) (w' : World), todo[i]? = some (k, v) ∧ (Instr.next (.pointer (some ⟨r, 0, none⟩)) false ty).run P w = .ok (.tuple #[.bool true, kv k, v]) w' ∧ Ranging kv w' m r es (todo.eraseIdx i) ∧ w.grownBy w' (some r) ∧ w'.heap.size = w.heap.size ∧
      (Instr.entry (.pointer (some ⟨r, 0, none⟩))).run P w' = .ok (.tuple #[kv k, v]) w' := by
  have hne := h.ne
  have hleft := h.left_eq
  obtain ⟨L, clock, since, seen, c0, he, hm, h1, h2, h3, hr, h4, h5, h6, htodo⟩ := h
  have hold : ∀ x ∈ (L.map (ent kv)).toArray.toList, x.born < since := by
    intro x hx
    obtain ⟨p, hp, rfl⟩ := List.mem_map.1 (show x ∈ L.map (ent kv) from hx)
    exact h4 p hp
  rcases run_next_at (P := P) w ty r m since c0 seen _ clock hr hm hold h5 with ⟨h0, hrun⟩ | ⟨e, hel, w1, hal, hrun⟩
  · refine .inl ⟨?_, hrun⟩
    simp only [World.rangeLeft, hm, hr, h0] at hleft
    exact List.eq_nil_of_length_eq_zero hleft.symm
  · have hel' : e ∈ L.map (ent kv) ∧ seen.contains e.born = false := by
      simp only [leftOf, Array.toList_filter, List.mem_filter, Bool.not_eq_true'] at hel
      exact hel
    obtain ⟨x, hx, rfl⟩ := List.mem_map.1 hel'.1
    have hxs : seen.contains x.2.2 = false := hel'.2
    obtain ⟨i, hi1, hi2⟩ := filter_erase (fun p : Ent K => !seen.contains p.2.2) (fun p : Ent K => !(seen.push x.2.2).contains p.2.2) (fun p => p.2.2) L h2 x hx (by simp only [hxs]; rfl) (fun y hy => by
      simp only [Array.contains_push]
      cases hc : seen.contains y.2.2 <;> by_cases hb : y.2.2 = x.2.2 <;> simp [hb])
    have hr1 : w1.heap[r]? = some (.mapIter (some m) since seen c0) := by rcases hal with rfl | rfl <;> exact hr
    have hm1 : w1.heap[m]? = some (.map (L.map (ent kv)).toArray clock) := by rcases hal with rfl | rfl <;> exact hm
    have hset := heap_set (o' := .mapIter (some m) since (seen.push x.2.2) clock) hr1
    have hm' : (ChangeMaps.setBlock w1 r (.mapIter (some m) since (seen.push x.2.2) clock)).heap[m]? = some (.map (L.map (ent kv)).toArray clock) := (hset.2 m (fun e1 => hne e1.symm)).trans hm1
    refine .inr ⟨i, x.1, x.2.1, _, ?_, hrun, ⟨L, clock, since, seen.push x.2.2, clock, he, hm', h1, h2, h3, hset.1, h4, h6, h6, ?_⟩, ?_, ?_, run_entry_at _ r m since seen _ clock (ent kv x) hset.1 hm' (by simpa using hel'.1) (by simpa [Function.comp_def, ent] using h2)⟩
    · rw [htodo, List.getElem?_map, hi1]; rfl
    · rw [htodo, eraseIdx_map', ← hi2]
    · rcases hal with rfl | rfl <;> exact ⟨rfl, rfl, rfl, by simp [ChangeMaps.setBlock], fun i _ hi => hset.2 i (fun e1 => hi (by rw [e1]))⟩
    · rcases hal with rfl | rfl <;> simp [ChangeMaps.setBlock]
end

section
variable {K : Type} {P : Program} {T M E : TypeId} {kv : K → Value} (w : World) {m r : Nat} {es todo : List (K × Value)} {ops : Array Oper} {rest : List Oper} {o : Oper} {a : Act} {Q : Exit → Act → World → Prop}
/-- 'range m'. -/
theorem wp_rangeT (hg : o.guard = none) (mo : Operand) (ho : o.op = Op.range M mo) (hM : P.underlying M = some (.map T E)) (hm : a.eval mo = .map (some m)) (h : MapAt kv w m es)
    (hK : ∀ w', Ranging kv w' m w.heap.size es es → Below w.heap.size w w' → w'.heap.size = w.heap.size + 1 → wpList P ops Q rest (a.put o.dst (.pointer (some ⟨w.heap.size, 0, none⟩))) w') : wpList P ops Q (o :: rest) a w := by
  refine wpList_plain hg fun K' hK' => ?_
  obtain ⟨w', hrun, h1, h2, h3⟩ := run_rangeT h hM
  unfold Oper.wp
  simp [execOp, ho, hm, hrun, Result.andThen]
  exact hK' _ _ (hK w' h1 h2 h3)
/-- The loop's step. 'mkV' says the values' shape. -/
theorem wp_nextT {V : Type} (mkV : V → Value) (hg : o.guard = none) (it : Operand) (ho : o.op = Op.next it false) (hit : a.eval it = .pointer (some ⟨r, 0, none⟩)) (h : Ranging kv w m r es todo) (hv : ∀ p ∈ es, ∃ c, p.2 = mkV c)
    (hDone : todo = [] → wpList P ops Q rest (a.put o.dst (.tuple #[.bool false])) w)
    (hMore : ∀ (i : Nat) (k : K) (c : V) (w' : World), todo[i]? = some (k, mkV c) → Ranging kv w' m r es (todo.eraseIdx i) → w.grownBy w' (some r) → w'.heap.size = w.heap.size →
      (Instr.entry (.pointer (some ⟨r, 0, none⟩))).run P w' = .ok (.tuple #[kv k, mkV c]) w' → wpList P ops Q rest (a.put o.dst (.tuple #[.bool true, kv k, mkV c])) w') : wpList P ops Q (o :: rest) a w := by
  refine wpList_plain hg fun K' hK' => ?_
  unfold Oper.wp
  rcases run_nextT (P := P) h o.type with ⟨h0, hrun⟩ | ⟨i, k, v, w', hi, hrun, h1, h2, h3, h4⟩
  · simp [execOp, ho, hit, hrun, Result.andThen]
    exact hK' _ _ (hDone h0)
  · obtain ⟨c, hc⟩ := hv (k, v) (h.sub.subset (List.mem_of_getElem? hi))
    simp only at hc
    subst hc
    simp [execOp, ho, hit, hrun, Result.andThen]
    exact hK' _ _ (hMore i k c w' hi h1 h2 h3 h4)
end
end Go.Proofs.YtjgonfnpfbifjaaGreatDoor
