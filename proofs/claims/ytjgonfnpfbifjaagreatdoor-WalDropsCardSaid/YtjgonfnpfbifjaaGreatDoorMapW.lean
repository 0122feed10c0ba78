/- Maps in memory: the store at the walk; what a map answers behind it; keys that are ints. -/
import Derived.Test.YtjgonfnpfbifjaaGreatDoorRangeT
namespace Go.Proofs.YtjgonfnpfbifjaaGreatDoor
open Go.RowKit Go.MapKept

section
variable {K : Type} [DecidableEq K] {P : Program} {T M E : TypeId} {kv : K → Value} {m : Nat} {es : List (K × Value)} {ops : Array Oper} {rest : List Oper} {o : Oper} {a : Act} {Q : Exit → Act → World → Prop}
theorem wp_mapUpdateT (w : World) (hg : o.guard = none) (law : KeyLaw P T kv) (h : MapAt kv w m es) (mo ko vo : Operand) (ho : o.op = .mapUpdate M mo ko vo) (hM : P.underlying M = some (.map T E)) (k : K) (v : Value) (hm : a.eval mo = .map (some m)) (hk : a.eval ko = kv k) (hv : a.eval vo = v)
    (hN : ∀ ob, MapAt kv (wset w m ob) m (mput es k v) → wpList P ops Q rest (a.put o.dst undef) (wset w m ob)) : wpList P ops Q (o :: rest) a w :=
  wpList_plain hg fun _ hK => op_mapUpdate law h mo ko vo ho hM k v hm hk hv fun ob hmap => hK _ _ (hN ob hmap)
theorem mget_cons (p : K × Value) (es : List (K × Value)) (k : K) : mget (p :: es) k = if p.1 = k then some p.2 else mget es k := by
  unfold mget
  rw [List.find?_cons]
  by_cases h : p.1 = k <;> simp [h]
theorem mget_append_one (es : List (K × Value)) (k y : K) (v : Value) (h : k ∉ es.map Prod.fst) : mget (es ++ [(k, v)]) y = if y = k then some v else mget es y := by
  induction es with
  | nil => rw [List.nil_append, mget_cons]; by_cases e : k = y <;> simp [e, mget, Ne.symm, eq_comm]
  | cons p es ih =>
    rw [List.map_cons, List.mem_cons, not_or] at h
    rw [List.cons_append, mget_cons, mget_cons, ih h.2]
    by_cases e : p.1 = y
    · rw [if_pos e, if_pos e, if_neg]
      rintro rfl
      exact h.1 e.symm
    · rw [if_neg e, if_neg e]
theorem mget_mputV (es : List (K × Value)) (k y : K) (v : Value) : mget (mput es k v) y = if y = k then some v else mget es y := by
  unfold mput
  by_cases hk : k ∈ es.map Prod.fst
  · rw [if_pos hk]
    induction es with
    | nil => simp at hk
    | cons p es ih =>
      rw [List.map_cons, mget_cons, mget_cons]
      by_cases hp : p.1 = k
      · rw [if_pos hp]
        by_cases e : y = k
        · subst e; simp
        · rw [if_neg (Ne.symm e), if_neg e, if_neg (fun h => e (by rw [← h, hp]))]
          by_cases hk2 : k ∈ es.map Prod.fst
          · rw [ih hk2, if_neg e]
          · congr 1
            rw [List.map_congr_left (g := id) (fun q hq => ?_), List.map_id]
            rw [if_neg]
            · rfl
            · intro h; exact hk2 (by rw [← h]; exact List.mem_map.2 ⟨q, hq, rfl⟩)
      · rw [if_neg hp]
        have hk2 : k ∈ es.map Prod.fst := by
          rw [List.map_cons, List.mem_cons] at hk
          rcases hk with h | h
          · exact absurd h.symm hp
          · exact h
        rw [ih hk2]
        by_cases e : p.1 = y
        · rw [if_pos e, if_pos e, if_neg (fun h => hp (by rw [e, h]))]
        · rw [if_neg e, if_neg e]
  · rw [if_neg hk, mget_append_one es k y v hk]
theorem mget_isSome_iff {k : K} : (mget es k).isSome = true ↔ k ∈ es.map Prod.fst := by
  constructor
  · intro h
    obtain ⟨v, hv⟩ := Option.isSome_iff_exists.1 h
    exact List.mem_map.2 ⟨(k, v), mget_mem hv, rfl⟩
  · intro h
    cases hm : mget es k with
    | none => exact absurd h (mget_none.1 hm)
    | some v => rfl
end

theorem intLaw : KeyLaw Tryz.prog 3 (Value.int .i64) :=
  KeyLaw.scalar Tryz.underlying3 (fun k => by simp [MapKept.IsKey]) (fun x y h => by injection h)
end Go.Proofs.YtjgonfnpfbifjaaGreatDoor
