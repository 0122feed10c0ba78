/- Put together of: MapT, RangeT, MapW, TM, DskNum. -/
import Derived.Test.YtobdmlejabjmiaaGreatDoorZa03
import Derived.MapKept
import Derived.Maps.RangeWalk
import Derived.Sort.EncStr
import Derived.Laws.Strings
/- Maps in memory, told by a list of keys and values; keys of any type whose equality the model decides. -/
namespace Go.Proofs.YtobdmlejabjmiaaGreatDoor
open Go.RowKit Go.MapKept

/-- An entry, told by its key, its value and its birth. -/
abbrev Ent (K : Type) := K × Value × Nat
def ent {K : Type} (kv : K → Value) (p : Ent K) : MapEntry := { key := kv p.1, val := p.2.1, born := p.2.2 }

/-- What the model does with keys of a type. -/
structure KeyLaw {K : Type} (P : Program) (T : TypeId) (kv : K → Value) : Prop where
  check : ∀ b k w, (Instr.checkKey b 10000 T (kv k)).run P w = .ok () w
  find : ∀ (k : K) (L : List (Ent K)) (w : World),
    ((Instr.findKey T (kv k) (L.map (ent kv))).run P w = .ok none w ∧ k ∉ L.map (·.1)) ∨ ∃ i p, (Instr.findKey T (kv k) (L.map (ent kv))).run P w = .ok (some (i, p.2.1)) w ∧ L[i]? = some p ∧ p.1 = k
  stays : ∀ k w, (Instr.keyThatStays (kv k) (kv k)).run P w = .ok (kv k) w

/-- The map at block m: its keys, distinct, and what they lead to. -/
def MapAt {K : Type} (kv : K → Value) (w : World) (m : Nat) (es : List (K × Value)) : Prop :=
  ∃ (L : List (Ent K)) (clock : Nat), es = L.map (fun p => (p.1, p.2.1)) ∧ w.heap[m]? = some (.map (L.map (ent kv)).toArray clock) ∧ (L.map (·.1)).Nodup ∧ (L.map (·.2.2)).Nodup ∧ ∀ p ∈ L, p.2.2 < clock

/-- A map with a key laid, or struck. -/
def mput {K : Type} [DecidableEq K] (es : List (K × Value)) (k : K) (v : Value) : List (K × Value) :=
  if k ∈ es.map Prod.fst then es.map (fun p => if p.1 = k then (k, v) else p) else es ++ [(k, v)]
def mdel {K : Type} [DecidableEq K] (es : List (K × Value)) (k : K) : List (K × Value) := es.filter (fun p => p.1 ≠ k)
def mget {K : Type} [DecidableEq K] (es : List (K × Value)) (k : K) : Option Value := (es.find? (fun p => p.1 = k)).map Prod.snd

section
variable {K : Type} {kv : K → Value} {w w' : World} {m : Nat} {es : List (K × Value)}
theorem MapAt.lt (h : MapAt kv w m es) : m < w.heap.size := by
  obtain ⟨L, clock, _, hm, _⟩ := h
  exact lt_of_block hm
theorem MapAt.of_block (h : MapAt kv w m es) (hb : w'.heap[m]? = w.heap[m]?) : MapAt kv w' m es := by
  obtain ⟨L, clock, he, hm, r⟩ := h
  exact ⟨L, clock, he, by rw [hb]; exact hm, r⟩
theorem MapAt.mods {S : Nat → Prop} (h : MapAt kv w m es) (k : Mods S w w') (hn : ¬ S m) : MapAt kv w' m es := h.of_block (k.block m h.lt hn)
theorem MapAt.below (h : MapAt kv w m es) (hb : Below w.heap.size w w') : MapAt kv w' m es := h.of_block (hb.block m h.lt)
theorem MapAt.made (w : World) : MapAt kv (w.alloc (.map #[] 0)) w.heap.size ([] : List (K × Value)) := ⟨[], 0, rfl, heap_alloc_new w _, by simp, by simp, by simp⟩
theorem MapAt.drewN (h : MapAt kv w m es) (n : Nat) : MapAt kv (w.drewN n) m es := h.of_block rfl
theorem MapAt.drew (h : MapAt kv w m es) : MapAt kv w.drew m es := h.of_block rfl
theorem MapAt.nodup (h : MapAt kv w m es) : (es.map Prod.fst).Nodup := by
  obtain ⟨L, clock, rfl, _, hn, _⟩ := h
  rw [List.map_map]
  exact hn
theorem MapAt.setCell (h : MapAt kv w m es) {p : Addr} (hp : m ≠ p.block) (v : Value) : MapAt kv (w.setCell p v) m es := h.of_block (Below.heap_setCell w p v m hp)
theorem MapAt.grown {row : Option Nat} (h : MapAt kv w m es) (hg : w.grownBy w' row) (hk : row ≠ some m) : MapAt kv w' m es := h.of_block (hg.block m h.lt fun e => hk e.symm)
theorem MapAt.ne_cells (h : MapAt kv w m es) {g : Nat} {cs : Array Value} {T : TypeId} {fr : Nat × Nat} (hg : w.heap[g]? = some (.cells cs T fr)) : m ≠ g := by
  rintro rfl
  obtain ⟨L, clock, _, hm, _⟩ := h
  rw [hm] at hg
  cases hg
end

section
variable {K : Type} {P : Program} {M T E : TypeId} {kv : K → Value} {w : World} {m : Nat} {es : List (K × Value)}
theorem MapAt.size (h : MapAt kv w m es) : ∃ es0 clock, w.heap[m]? = some (.map es0 clock) ∧ es0.size = es.length := by
  obtain ⟨L, clock, rfl, hm, _⟩ := h
  exact ⟨_, _, hm, by simp⟩
theorem run_len_map (h : MapAt kv w m es) (hM : P.underlying M = some (.map T E)) (ty : TypeId) : (Builtin.len_ #[M] ty #[.map (some m)]).run P w = .ok (.int .i64 (es.length : Int)) w := by
  obtain ⟨L, clock, rfl, hm, _⟩ := h
  simp [Builtin.len_, run_underlying hM, MapKept.run_getObj_map hm, goInt]

end

theorem eraseIdx_map' {α β : Type} (f : α → β) : ∀ (L : List α) (i : Nat), (L.map f).eraseIdx i = (L.eraseIdx i).map f
  | [], _ => by simp
  | _ :: _, 0 => rfl
  | a :: L, i + 1 => by simp [eraseIdx_map' f L i]
theorem nodup_get_ne {α : Type} {l : List α} (h : l.Nodup) {i j : Nat} (hij : i ≠ j) {a b : α} (hi : l[i]? = some a) (hj : l[j]? = some b) : a ≠ b := by
  obtain ⟨hi1, hi2⟩ := List.getElem?_eq_some_iff.1 hi
  obtain ⟨hj1, hj2⟩ := List.getElem?_eq_some_iff.1 hj
  rcases Nat.lt_or_gt_of_ne hij with hl | hl
  · have := List.pairwise_iff_getElem.1 h i j hi1 hj1 hl
    rw [hi2, hj2] at this
    exact this
  · have := List.pairwise_iff_getElem.1 h j i hj1 hi1 hl
    rw [hi2, hj2] at this
    exact this.symm

section
variable {K : Type} [DecidableEq K] {P : Program} {T M E : TypeId} {kv : K → Value} {w : World} {m : Nat} {es : List (K × Value)}

theorem mget_none {k : K} : mget es k = none ↔ k ∉ es.map Prod.fst := by
  unfold mget
  simp only [Option.map_eq_none_iff, List.find?_eq_none, decide_eq_true_eq, List.mem_map, not_exists, not_and]
theorem mget_some_of_mem (hn : (es.map Prod.fst).Nodup) {k : K} {v : Value} (h : (k, v) ∈ es) : mget es k = some v := by
  induction es with
  | nil => cases h
  | cons p es ih =>
    rw [List.map_cons, List.nodup_cons] at hn
    unfold mget
    rw [List.find?_cons]
    rcases List.mem_cons.1 h with rfl | h
    · simp
    · have : p.1 ≠ k := fun e => hn.1 (by rw [e]; exact List.mem_map.2 ⟨_, h, rfl⟩)
      simp only [this, decide_false]
      exact ih hn.2 h
theorem mget_mem {k : K} {v : Value} (h : mget es k = some v) : (k, v) ∈ es := by
  unfold mget at h
  obtain ⟨p, hp, rfl⟩ := Option.map_eq_some_iff.1 h
  have h1 := List.find?_some hp
  have h2 := List.mem_of_find?_eq_some hp
  simp only [decide_eq_true_eq] at h1
  rw [← h1]
  exact h2

theorem run_lookup_hit (law : KeyLaw P T kv) (h : MapAt kv w m es) (hM : P.underlying M = some (.map T E)) {k : K} {v : Value} (hv : mget es k = some v) (ok : Bool) :
    (Instr.lookup M (.map (some m)) (kv k) ok).run P w = .ok (if ok then .tuple #[v, .bool true] else v) w := by
  have hnd := h.nodup
  obtain ⟨L, clock, rfl, hm, hn, hb, hc⟩ := h
  rcases law.find k L w with ⟨_, hk⟩ | ⟨i, p, hr, hi, hp⟩
  · exfalso
    have := mget_mem hv
    obtain ⟨q, hq, he⟩ := List.mem_map.1 this
    injection he with he1 he2
    exact hk (List.mem_map.2 ⟨q, hq, he1⟩)
  · have hv' : p.2.1 = v := by
      have h1 : mget (L.map fun p => (p.1, p.2.1)) k = some p.2.1 := mget_some_of_mem hnd (List.mem_map.2 ⟨p, List.mem_of_getElem? hi, by rw [hp]⟩)
      rw [hv] at h1
      injection h1 with h1
      exact h1.symm
    subst hv'
    have hr' : Sem.run P (Instr.findKey T (kv k) (L.map (ent kv)).toArray.toList) w = .ok (some (i, p.2.1)) w := by simpa using hr
    simp only [Instr.lookup, Sem.run_bind, run_underlying hM, MapKept.run_getObj_map hm, Result.andThen_ok, Sem.run_pure, law.check, hr']

theorem run_lookup_miss (law : KeyLaw P T kv) (h : MapAt kv w m es) (hM : P.underlying M = some (.map T E)) {z : Value} (hz : (zeroValue E).run P w = .ok z w) {k : K} (hv : mget es k = none) (ok : Bool) :
    (Instr.lookup M (.map (some m)) (kv k) ok).run P w = .ok (if ok then .tuple #[z, .bool false] else z) w := by
  have hnd := h.nodup
  obtain ⟨L, clock, rfl, hm, hn, hb, hc⟩ := h
  rcases law.find k L w with ⟨hr, _⟩ | ⟨i, p, hr, hi, hp⟩
  · have hr' : Sem.run P (Instr.findKey T (kv k) (L.map (ent kv)).toArray.toList) w = .ok none w := by simpa using hr
    simp only [Instr.lookup, Sem.run_bind, run_underlying hM, MapKept.run_getObj_map hm, Result.andThen_ok, Sem.run_pure, law.check, hr', hz]
  · exfalso
    have h1 : mget (L.map fun p => (p.1, p.2.1)) k = some p.2.1 := mget_some_of_mem hnd (List.mem_map.2 ⟨p, List.mem_of_getElem? hi, by rw [hp]⟩)
    rw [hv] at h1
    cases h1

theorem heap_setObj {w : World} {m : Nat} {o o' : Obj} (h : w.heap[m]? = some o') : ({ w with heap := w.heap.setIfInBounds m o } : World).heap[m]? = some o := (heap_set h).1

theorem run_mapUpdate (law : KeyLaw P T kv) (h : MapAt kv w m es) (hM : P.underlying M = some (.map T E)) (k : K) (v : Value) :
    ∃ o, (Instr.mapUpdate M (.map (some m)) (kv k) v).run P w = .ok () { w with heap := w.heap.setIfInBounds m o } ∧ MapAt kv { w with heap := w.heap.setIfInBounds m o } m (mput es k v) := by
  have hnd := h.nodup
  obtain ⟨L, clock, rfl, hm, hn, hb, hc⟩ := h
  rcases law.find k L w with ⟨hr, hk⟩ | ⟨i, p, hr, hi, hp⟩
  · have hr' : Sem.run P (Instr.findKey T (kv k) (L.map (ent kv)).toArray.toList) w = .ok none w := by simpa using hr
    refine ⟨.map ((L.map (ent kv)).toArray.push { key := kv k, val := v, born := clock }) (clock + 1), ?_, L ++ [(k, v, clock)], clock + 1, ?_, ?_, ?_, ?_, ?_⟩
    · simp only [Instr.mapUpdate, Sem.run_bind, run_underlying hM, MapKept.run_getObj_map hm, Result.andThen_ok, Sem.run_pure, law.check, hr', MapKept.run_setObj_map _ hm]
    · rw [mput, if_neg (by rw [List.map_map]; exact hk)]
      simp
    · rw [heap_setObj hm]
      simp [ent]
    · rw [List.map_append]
      refine List.nodup_append.2 ⟨hn, by simp, ?_⟩
      intro a ha b hb'
      simp at hb'
      subst hb'
      rintro rfl
      exact hk ha
    · rw [List.map_append]
      refine List.nodup_append.2 ⟨hb, by simp, ?_⟩
      intro a ha b hb'
      simp at hb'
      subst hb'
      obtain ⟨q, hq, rfl⟩ := List.mem_map.1 ha
      exact Nat.ne_of_lt (hc q hq)
    · intro q hq
      rcases List.mem_append.1 hq with hq | hq
      · exact Nat.lt_succ_of_lt (hc q hq)
      · simp at hq; subst hq; exact Nat.lt_succ_self _
  · have hr' : Sem.run P (Instr.findKey T (kv k) (L.map (ent kv)).toArray.toList) w = .ok (some (i, p.2.1)) w := by simpa using hr
    have hlt : i < L.length := (List.getElem?_eq_some_iff.1 hi).1
    have hgi : L[i] = p := by rw [List.getElem?_eq_getElem hlt] at hi; injection hi
    have hold : (((L.map (ent kv)).toArray[i]?).map (·.key)).getD (kv k) = kv k := by simp [hi, ent, hp]
    refine ⟨.map ((L.map (ent kv)).toArray.modify i fun e => { e with key := kv k, val := v }) clock, ?_, L.map (fun q => if q.1 = k then (k, v, q.2.2) else q), clock, ?_, ?_, ?_, ?_, ?_⟩
    · simp only [Instr.mapUpdate, Sem.run_bind, run_underlying hM, MapKept.run_getObj_map hm, Result.andThen_ok, Sem.run_pure, law.check, hr', hold, law.stays, MapKept.run_setObj_map _ hm]
    · rw [mput, if_pos (by rw [List.map_map]; exact List.mem_map.2 ⟨p, List.mem_of_getElem? hi, hp⟩)]
      simp only [List.map_map]
      refine List.map_congr_left fun q _ => ?_
      simp only [Function.comp]
      split <;> rfl
    · rw [heap_setObj hm]
      congr 2
      apply Array.ext_getElem?
      intro j
      simp only [Array.getElem?_modify, List.getElem?_toArray, List.getElem?_map]
      by_cases hij : i = j
      · subst hij
        simp [hi, hp, ent]
      · rw [if_neg hij]
        cases hj : L[j]? with
        | none => simp
        | some q =>
          have hjl : j < L.length := (List.getElem?_eq_some_iff.1 hj).1
          have hgj : L[j] = q := by rw [List.getElem?_eq_getElem hjl] at hj; injection hj
          have hne : q.1 ≠ k := by
            intro e
            exact nodup_get_ne hn hij (a := k) (b := k) (by simp [hi, hp]) (by simp [hj, e]) rfl
          simp [hne]
    · have : (L.map (fun q => if q.1 = k then (k, v, q.2.2) else q)).map (·.1) = L.map (·.1) := by
        rw [List.map_map]
        refine List.map_congr_left fun q _ => ?_
        simp only [Function.comp]
        split
        · rename_i e; exact e.symm
        · rfl
      rw [this]; exact hn
    · have : (L.map (fun q => if q.1 = k then (k, v, q.2.2) else q)).map (·.2.2) = L.map (·.2.2) := by
        rw [List.map_map]
        refine List.map_congr_left fun q _ => ?_
        simp only [Function.comp]
        split <;> rfl
      rw [this]; exact hb
    · intro q hq
      obtain ⟨q', hq', rfl⟩ := List.mem_map.1 hq
      split
      · exact hc q' hq'
      · exact hc q' hq'

theorem nodup_filter_idx {α β : Type} [DecidableEq β] (f : α → β) (L : List α) (hn : (L.map f).Nodup) (i : Nat) (p : α) (hi : L[i]? = some p) : L.eraseIdx i = L.filter (fun q => f q ≠ f p) := by
  induction L generalizing i with
  | nil => simp at hi
  | cons a L ih =>
    rw [List.map_cons, List.nodup_cons] at hn
    cases i with
    | zero =>
      simp at hi
      subst hi
      simp only [List.eraseIdx_cons_zero]
      rw [List.filter_cons_of_neg (by simp)]
      refine (List.filter_eq_self.2 fun q hq => ?_).symm
      simp only [ne_eq, decide_not, Bool.not_eq_eq_eq_not, Bool.not_true, decide_eq_false_iff_not]
      intro e
      exact hn.1 (by rw [← e]; exact List.mem_map.2 ⟨q, hq, rfl⟩)
    | succ i =>
      simp at hi
      rw [List.eraseIdx_cons_succ, ih hn.2 i hi, List.filter_cons_of_pos]
      simp only [ne_eq, decide_not, Bool.not_eq_eq_eq_not, Bool.not_true, decide_eq_false_iff_not]
      intro e
      exact hn.1 (by rw [e]; exact List.mem_map.2 ⟨p, List.mem_of_getElem? hi, rfl⟩)

theorem run_mapDelete (law : KeyLaw P T kv) (h : MapAt kv w m es) (hM : P.underlying M = some (.map T E)) (k : K) (ty M2 : TypeId) :
    ∃ o, (Builtin.delete_ #[M, M2] ty #[.map (some m), kv k]).run P w = .ok (.tuple #[]) { w with heap := w.heap.setIfInBounds m o } ∧ MapAt kv { w with heap := w.heap.setIfInBounds m o } m (mdel es k) := by
  obtain ⟨L, clock, rfl, hm, hn, hb, hc⟩ := h
  rcases law.find k L w with ⟨hr, hk⟩ | ⟨i, p, hr, hi, hp⟩
  · have hr' : Sem.run P (Instr.findKey T (kv k) (L.map (ent kv)).toArray.toList) w = .ok none w := by simpa using hr
    refine ⟨.map (L.map (ent kv)).toArray clock, ?_, L, clock, ?_, heap_setObj hm, hn, hb, hc⟩
    · simp [Builtin.delete_, run_underlying hM, MapKept.run_getObj_map hm, law.check, hr, MapKept.run_setObj_map _ hm]
    · rw [mdel, List.filter_eq_self.2]
      intro q hq
      obtain ⟨q', hq', rfl⟩ := List.mem_map.1 hq
      simp only [ne_eq, decide_not, Bool.not_eq_eq_eq_not, Bool.not_true, decide_eq_false_iff_not]
      intro e
      exact hk (List.mem_map.2 ⟨q', hq', e⟩)
  · have hlt : i < L.length := (List.getElem?_eq_some_iff.1 hi).1
    have hf := nodup_filter_idx (·.1) L hn i p hi
    have hsub : (L.eraseIdx i).Sublist L := List.eraseIdx_sublist _ _
    refine ⟨.map ((L.map (ent kv)).toArray.eraseIdxIfInBounds i) clock, ?_, L.eraseIdx i, clock, ?_, ?_, (hsub.map _).nodup hn, (hsub.map _).nodup hb, fun q hq => hc q (hsub.subset hq)⟩
    · simp [Builtin.delete_, run_underlying hM, MapKept.run_getObj_map hm, law.check, hr, MapKept.run_setObj_map _ hm]
    · rw [mdel, hf, List.filter_map]
      congr 1
      refine List.filter_congr fun q _ => ?_
      simp [hp]
    · rw [heap_setObj hm]
      congr 2
      simp [Array.eraseIdxIfInBounds, hlt, eraseIdx_map']

end

theorem run_makeMap {P : Program} (M : TypeId) (w : World) : (Instr.makeMap M none).run P w = .ok (.map (some w.heap.size)) (w.alloc (.map #[] 0)) := by
  simp [Instr.makeMap]

/-- The world with another object at block m. -/
def wset (w : World) (m : Nat) (ob : Obj) : World := { w with heap := w.heap.setIfInBounds m ob }
theorem wset_other (w : World) (m : Nat) (ob : Obj) (k : Nat) (h : k ≠ m) : (wset w m ob).heap[k]? = w.heap[k]? := by simp [wset, Array.getElem?_setIfInBounds, Ne.symm h]
theorem wset_size (w : World) (m : Nat) (ob : Obj) : (wset w m ob).heap.size = w.heap.size := by simp [wset]
theorem Mods.wset {S : Nat → Prop} {w a : World} (h : Mods S w a) (g : Nat) (hp : S g ∨ w.heap.size ≤ g) (o : Obj) : Mods S w (wset a g o) := h.setObj g hp o

section
variable {K : Type} [DecidableEq K] {P : Program} {T M E : TypeId} {kv : K → Value} {w : World} {m : Nat} {es : List (K × Value)} {o : Oper} {a : Act} {N : Act → World → Prop} {Q : Exit → Act → World → Prop}
theorem op_mapUpdate (law : KeyLaw P T kv) (h : MapAt kv w m es) (mo ko vo : Operand) (ho : o.op = .mapUpdate M mo ko vo) (hM : P.underlying M = some (.map T E)) (k : K) (v : Value) (hm : a.eval mo = .map (some m)) (hk : a.eval ko = kv k) (hv : a.eval vo = v)
    (hN : ∀ ob, MapAt kv (wset w m ob) m (mput es k v) → N (a.put o.dst undef) (wset w m ob)) : o.wp P a w N Q := by
  obtain ⟨ob, hr, hmap⟩ := run_mapUpdate law h hM k v
  unfold Oper.wp execOp
  simp only [ho, hm, hk, hv, Sem.run_bind, hr, Result.andThen_ok, Sem.run_pure]
  exact hN ob hmap
end

/-- Keys that are numbers of one kind, bools, strings. -/
theorem KeyLaw.scalar {K : Type} {P : Program} {T : TypeId} {d : TypeDesc} {kv : K → Value} (ht : P.underlying T = some d) (hk : ∀ k, IsKey d (kv k)) (hinj : ∀ x y, kv x = kv y → x = y) : KeyLaw P T kv := by
  refine ⟨fun b k w => run_checkKey ht (hk k) b 9999, fun k L w => ?_, fun k w => run_keyThatStays (hk k)⟩
  have hall : ∀ x ∈ L.map (ent kv), IsKey d x.key := by
    intro x hx
    obtain ⟨p, _, rfl⟩ := List.mem_map.1 hx
    exact hk _
  rcases findNow_spec (hk k) (L.map (ent kv)) 0 hall with ⟨h1, h2⟩ | ⟨j, e, h1, h2, h3⟩
  · refine .inl ⟨run_findKey ht h1, fun hmem => ?_⟩
    obtain ⟨p, hp, rfl⟩ := List.mem_map.1 hmem
    exact h2 _ (List.mem_map.2 ⟨p, hp, rfl⟩) rfl
  · rw [List.getElem?_map] at h2
    obtain ⟨p, hp, rfl⟩ := Option.map_eq_some_iff.1 h2
    rw [Nat.zero_add] at h1
    exact .inr ⟨j, p, run_findKey ht h1, hp, hinj _ _ h3⟩
end Go.Proofs.YtobdmlejabjmiaaGreatDoor


/- 'for k, v := range m' over a map that is told by a list of keys and values; which entries are still to come is a list as well. -/
namespace Go.Proofs.YtobdmlejabjmiaaGreatDoor
open Go.RowKit Go.MapKept

/-- A loop over the map at block m is under way, its iterator at block r; 'todo' is still to come. -/
def Ranging {K : Type} (kv : K → Value) (w : World) (m r : Nat) (es todo : List (K × Value)) : Prop :=
  ∃ (L : List (Ent K)) (clock since : Nat) (seen : Array Nat) (c0 : Nat), es = L.map (fun p => (p.1, p.2.1)) ∧ w.heap[m]? = some (.map (L.map (ent kv)).toArray clock) ∧ (L.map (·.1)).Nodup ∧ (L.map (·.2.2)).Nodup ∧ (∀ p ∈ L, p.2.2 < clock) ∧
    w.heap[r]? = some (.mapIter (some m) since seen c0) ∧ (∀ p ∈ L, p.2.2 < since) ∧ since ≤ c0 ∧ since ≤ clock ∧ todo = (L.filter fun p => !seen.contains p.2.2).map fun p => (p.1, p.2.1)

section
variable {K : Type} {kv : K → Value} {w w' : World} {m r : Nat} {es todo : List (K × Value)}
theorem Ranging.map (h : Ranging kv w m r es todo) : MapAt kv w m es := by
  obtain ⟨L, clock, since, seen, c0, he, hm, h1, h2, h3, _⟩ := h
  exact ⟨L, clock, he, hm, h1, h2, h3⟩
theorem Ranging.lt (h : Ranging kv w m r es todo) : r < w.heap.size := by
  obtain ⟨L, clock, since, seen, c0, _, _, _, _, _, hr, _⟩ := h
  exact lt_of_block hr
theorem Ranging.ne (h : Ranging kv w m r es todo) : r ≠ m := by
  obtain ⟨L, clock, since, seen, c0, _, hm, _, _, _, hr, _⟩ := h
  rintro rfl
  rw [hm] at hr
  cases hr
theorem Ranging.of_blocks (h : Ranging kv w m r es todo) (hm : w'.heap[m]? = w.heap[m]?) (hr : w'.heap[r]? = w.heap[r]?) : Ranging kv w' m r es todo := by
  obtain ⟨L, clock, since, seen, c0, he, h0, h1, h2, h3, h4, rest⟩ := h
  exact ⟨L, clock, since, seen, c0, he, by rw [hm]; exact h0, h1, h2, h3, by rw [hr]; exact h4, rest⟩
theorem Ranging.below (h : Ranging kv w m r es todo) (hb : Below w.heap.size w w') : Ranging kv w' m r es todo := h.of_blocks (hb.block m h.map.lt) (hb.block r h.lt)
theorem Ranging.mods {S : Nat → Prop} (h : Ranging kv w m r es todo) (k : Mods S w w') (hm : ¬ S m) (hr : ¬ S r) : Ranging kv w' m r es todo := h.of_blocks (k.block m h.map.lt hm) (k.block r h.lt hr)
theorem Ranging.left_eq (h : Ranging kv w m r es todo) : w.rangeLeft m r = todo.length := by
  obtain ⟨L, clock, since, seen, c0, he, hm, h1, h2, h3, hr, h4, h5, h6, rfl⟩ := h
  simp only [World.rangeLeft, hm, hr, leftOf]
  rw [← Array.length_toList, Array.toList_filter, List.length_map, List.filter_map, List.length_map]
  rfl
theorem Ranging.sub (h : Ranging kv w m r es todo) : todo.Sublist es := by
  obtain ⟨L, clock, since, seen, c0, rfl, hm, h1, h2, h3, hr, h4, h5, h6, rfl⟩ := h
  exact (List.filter_sublist (l := L)).map _
theorem Ranging.nodup (h : Ranging kv w m r es todo) : (todo.map Prod.fst).Nodup := (h.sub.map Prod.fst).nodup h.map.nodup
end

theorem filter_erase {α : Type} (p q : α → Bool) (b : α → Nat) (L : List α) (hn : (L.map b).Nodup) (x : α) (hx : x ∈ L) (hp : p x = true) (hq : ∀ y ∈ L, q y = (p y && !(b y == b x))) :
    ∃ i, (L.filter p)[i]? = some x ∧ L.filter q = (L.filter p).eraseIdx i := by
  induction L with
  | nil => cases hx
  | cons a L ih =>
    rw [List.map_cons, List.nodup_cons] at hn
    rcases List.mem_cons.1 hx with rfl | hx'
    · refine ⟨0, by rw [List.filter_cons_of_pos hp]; rfl, ?_⟩
      rw [List.filter_cons_of_pos hp, List.filter_cons_of_neg (by rw [hq x (by simp)]; simp), List.eraseIdx_cons_zero]
      refine List.filter_congr fun y hy => ?_
      rw [hq y (by simp [hy])]
      have : b y ≠ b x := fun e => hn.1 (by rw [← e]; exact List.mem_map.2 ⟨y, hy, rfl⟩)
      simp [this]
    · obtain ⟨i, h1, h2⟩ := ih hn.2 hx' (fun y hy => hq y (by simp [hy]))
      have hne : b a ≠ b x := fun e => hn.1 (by rw [e]; exact List.mem_map.2 ⟨x, hx', rfl⟩)
      have hqa : q a = p a := by rw [hq a (by simp)]; simp [hne]
      cases hpa : p a
      · refine ⟨i, by rw [List.filter_cons_of_neg (by simp [hpa])]; exact h1, ?_⟩
        rw [List.filter_cons_of_neg (by simp [hqa, hpa]), List.filter_cons_of_neg (by simp [hpa])]
        exact h2
      · refine ⟨i + 1, by rw [List.filter_cons_of_pos hpa]; simpa using h1, ?_⟩
        rw [List.filter_cons_of_pos (by rw [hqa]; exact hpa), List.filter_cons_of_pos hpa, List.eraseIdx_cons_succ, h2]

section
variable {K : Type} {P : Program} {T M E : TypeId} {kv : K → Value} {w : World} {m r : Nat} {es todo : List (K × Value)}
theorem run_rangeT (h : MapAt kv w m es) (hM : P.underlying M = some (.map T E)) : ∃ w', (Instr.range M (.map (some m))).run P w = .ok (.pointer (some ⟨w.heap.size, 0, none⟩)) w' ∧ Ranging kv w' m w.heap.size es es ∧ Below w.heap.size w w' ∧ w'.heap.size = w.heap.size + 1 := by
  have hlt := h.lt
  obtain ⟨L, clock, he, hm, h1, h2, h3⟩ := h
  have hb : Below w.heap.size w (w.alloc (.mapIter (some m) clock #[] clock)) := (Below.refl _ _).alloc (Nat.le_refl _) _
  refine ⟨_, run_range_map w M T E m _ clock hM hm, ⟨L, clock, clock, #[], clock, he, (hb.block m hlt).trans hm, h1, h2, h3, heap_alloc_new w _, h3, Nat.le_refl _, Nat.le_refl _, by rw [List.filter_eq_self.2 (by simp)]; exact he⟩, hb, by simp⟩

theorem run_nextT (h : Ranging kv w m r es todo) (ty : TypeId) :
    (todo = [] ∧ (Instr.next (.pointer (some ⟨r, 0, none⟩)) false ty).run P w = .ok (.tuple #[.bool false]) w) ∨
    ∃ (i : Nat) (k : K) (v : Value) (w' : World), todo[i]? = some (k, v) ∧ (Instr.next (.pointer (some ⟨r, 0, none⟩)) false ty).run P w = .ok (.tuple #[.bool true, kv k, v]) w' ∧ Ranging kv w' m r es (todo.eraseIdx i) ∧ w.grownBy w' (some r) ∧ w'.heap.size = w.heap.size ∧
      (Instr.entry (.pointer (some ⟨r, 0, none⟩))).run P w' = .ok (.tuple #[kv k, v]) w' := by
  have hne := h.ne
  have hleft := h.left_eq
  obtain ⟨L, clock, since, seen, c0, he, hm, h1, h2, h3, hr, h4, h5, h6, htodo⟩ := h
  have hold : ∀ x ∈ (L.map (ent kv)).toArray.toList, x.born < since := by
    intro x hx
    obtain ⟨p, hp, rfl⟩ := List.mem_map.1 (show x ∈ L.map (ent kv) from hx)
    exact h4 p hp
  rcases run_next_at (P := P) w ty r m since c0 seen _ clock hr hm hold h5 with ⟨h0, hrun⟩ | ⟨e, hel, w1, hal, hrun⟩
  · refine .inl ⟨?_, hrun⟩
    simp only [World.rangeLeft, hm, hr, h0] at hleft
    exact List.eq_nil_of_length_eq_zero hleft.symm
  · have hel' : e ∈ L.map (ent kv) ∧ seen.contains e.born = false := by
      simp only [leftOf, Array.toList_filter, List.mem_filter, Bool.not_eq_true'] at hel
      exact hel
    obtain ⟨x, hx, rfl⟩ := List.mem_map.1 hel'.1
    have hxs : seen.contains x.2.2 = false := hel'.2
    obtain ⟨i, hi1, hi2⟩ := filter_erase (fun p : Ent K => !seen.contains p.2.2) (fun p : Ent K => !(seen.push x.2.2).contains p.2.2) (fun p => p.2.2) L h2 x hx (by simp only [hxs]; rfl) (fun y hy => by
      simp only [Array.contains_push]
      cases hc : seen.contains y.2.2 <;> by_cases hb : y.2.2 = x.2.2 <;> simp [hb])
    have hr1 : w1.heap[r]? = some (.mapIter (some m) since seen c0) := by rcases hal with rfl | rfl <;> exact hr
    have hm1 : w1.heap[m]? = some (.map (L.map (ent kv)).toArray clock) := by rcases hal with rfl | rfl <;> exact hm
    have hset := heap_set (o' := .mapIter (some m) since (seen.push x.2.2) clock) hr1
    have hm' : (ChangeMaps.setBlock w1 r (.mapIter (some m) since (seen.push x.2.2) clock)).heap[m]? = some (.map (L.map (ent kv)).toArray clock) := (hset.2 m (fun e1 => hne e1.symm)).trans hm1
    refine .inr ⟨i, x.1, x.2.1, _, ?_, hrun, ⟨L, clock, since, seen.push x.2.2, clock, he, hm', h1, h2, h3, hset.1, h4, h6, h6, ?_⟩, ?_, ?_, run_entry_at _ r m since seen _ clock (ent kv x) hset.1 hm' (by simpa using hel'.1) (by simpa [Function.comp_def, ent] using h2)⟩
    · rw [htodo, List.getElem?_map, hi1]; rfl
    · rw [htodo, eraseIdx_map', ← hi2]
    · rcases hal with rfl | rfl <;> exact ⟨rfl, rfl, rfl, by simp [ChangeMaps.setBlock], fun i _ hi => hset.2 i (fun e1 => hi (by rw [e1]))⟩
    · rcases hal with rfl | rfl <;> simp [ChangeMaps.setBlock]
end

section
variable {K : Type} {P : Program} {T M E : TypeId} {kv : K → Value} (w : World) {m r : Nat} {es todo : List (K × Value)} {ops : Array Oper} {rest : List Oper} {o : Oper} {a : Act} {Q : Exit → Act → World → Prop}
/-- 'range m'. -/
theorem wp_rangeT (hg : o.guard = none) (mo : Operand) (ho : o.op = Op.range M mo) (hM : P.underlying M = some (.map T E)) (hm : a.eval mo = .map (some m)) (h : MapAt kv w m es)
    (hK : ∀ w', Ranging kv w' m w.heap.size es es → Below w.heap.size w w' → w'.heap.size = w.heap.size + 1 → wpList P ops Q rest (a.put o.dst (.pointer (some ⟨w.heap.size, 0, none⟩))) w') : wpList P ops Q (o :: rest) a w := by
  refine wpList_plain hg fun K' hK' => ?_
  obtain ⟨w', hrun, h1, h2, h3⟩ := run_rangeT h hM
  unfold Oper.wp
  simp [execOp, ho, hm, hrun, Result.andThen]
  exact hK' _ _ (hK w' h1 h2 h3)
/-- The loop's step. 'mkV' says the values' shape. -/
theorem wp_nextT {V : Type} (mkV : V → Value) (hg : o.guard = none) (it : Operand) (ho : o.op = Op.next it false) (hit : a.eval it = .pointer (some ⟨r, 0, none⟩)) (h : Ranging kv w m r es todo) (hv : ∀ p ∈ es, ∃ c, p.2 = mkV c)
    (hDone : todo = [] → wpList P ops Q rest (a.put o.dst (.tuple #[.bool false])) w)
    (hMore : ∀ (i : Nat) (k : K) (c : V) (w' : World), todo[i]? = some (k, mkV c) → Ranging kv w' m r es (todo.eraseIdx i) → w.grownBy w' (some r) → w'.heap.size = w.heap.size →
      (Instr.entry (.pointer (some ⟨r, 0, none⟩))).run P w' = .ok (.tuple #[kv k, mkV c]) w' → wpList P ops Q rest (a.put o.dst (.tuple #[.bool true, kv k, mkV c])) w') : wpList P ops Q (o :: rest) a w := by
  refine wpList_plain hg fun K' hK' => ?_
  unfold Oper.wp
  rcases run_nextT (P := P) h o.type with ⟨h0, hrun⟩ | ⟨i, k, v, w', hi, hrun, h1, h2, h3, h4⟩
  · simp [execOp, ho, hit, hrun, Result.andThen]
    exact hK' _ _ (hDone h0)
  · obtain ⟨c, hc⟩ := hv (k, v) (h.sub.subset (List.mem_of_getElem? hi))
    simp only at hc
    subst hc
    simp [execOp, ho, hit, hrun, Result.andThen]
    exact hK' _ _ (hMore i k c w' hi h1 h2 h3 h4)
end
end Go.Proofs.YtobdmlejabjmiaaGreatDoor


/- Maps in memory: the store at the walk; what a map answers behind it; keys that are ints. -/
namespace Go.Proofs.YtobdmlejabjmiaaGreatDoor
open Go.RowKit Go.MapKept

section
variable {K : Type} [DecidableEq K] {P : Program} {T M E : TypeId} {kv : K → Value} {m : Nat} {es : List (K × Value)} {ops : Array Oper} {rest : List Oper} {o : Oper} {a : Act} {Q : Exit → Act → World → Prop}
theorem wp_mapUpdateT (w : World) (hg : o.guard = none) (law : KeyLaw P T kv) (h : MapAt kv w m es) (mo ko vo : Operand) (ho : o.op = .mapUpdate M mo ko vo) (hM : P.underlying M = some (.map T E)) (k : K) (v : Value) (hm : a.eval mo = .map (some m)) (hk : a.eval ko = kv k) (hv : a.eval vo = v)
    (hN : ∀ ob, MapAt kv (wset w m ob) m (mput es k v) → wpList P ops Q rest (a.put o.dst undef) (wset w m ob)) : wpList P ops Q (o :: rest) a w :=
  wpList_plain hg fun _ hK => op_mapUpdate law h mo ko vo ho hM k v hm hk hv fun ob hmap => hK _ _ (hN ob hmap)
theorem mget_cons (p : K × Value) (es : List (K × Value)) (k : K) : mget (p :: es) k = if p.1 = k then some p.2 else mget es k := by
  unfold mget
  rw [List.find?_cons]
  by_cases h : p.1 = k <;> simp [h]
theorem mget_append_one (es : List (K × Value)) (k y : K) (v : Value) (h : k ∉ es.map Prod.fst) : mget (es ++ [(k, v)]) y = if y = k then some v else mget es y := by
  induction es with
  | nil => rw [List.nil_append, mget_cons]; by_cases e : k = y <;> simp [e, mget, Ne.symm, eq_comm]
  | cons p es ih =>
    rw [List.map_cons, List.mem_cons, not_or] at h
    rw [List.cons_append, mget_cons, mget_cons, ih h.2]
    by_cases e : p.1 = y
    · rw [if_pos e, if_pos e, if_neg]
      rintro rfl
      exact h.1 e.symm
    · rw [if_neg e, if_neg e]
theorem mget_mputV (es : List (K × Value)) (k y : K) (v : Value) : mget (mput es k v) y = if y = k then some v else mget es y := by
  unfold mput
  by_cases hk : k ∈ es.map Prod.fst
  · rw [if_pos hk]
    induction es with
    | nil => simp at hk
    | cons p es ih =>
      rw [List.map_cons, mget_cons, mget_cons]
      by_cases hp : p.1 = k
      · rw [if_pos hp]
        by_cases e : y = k
        · subst e; simp
        · rw [if_neg (Ne.symm e), if_neg e, if_neg (fun h => e (by rw [← h, hp]))]
          by_cases hk2 : k ∈ es.map Prod.fst
          · rw [ih hk2, if_neg e]
          · congr 1
            rw [List.map_congr_left (g := id) (fun q hq => ?_), List.map_id]
            rw [if_neg]
            · rfl
            · intro h; exact hk2 (by rw [← h]; exact List.mem_map.2 ⟨q, hq, rfl⟩)
      · rw [if_neg hp]
        have hk2 : k ∈ es.map Prod.fst := by
          rw [List.map_cons, List.mem_cons] at hk
          rcases hk with h | h
          · exact absurd h.symm hp
          · exact h
        rw [ih hk2]
        by_cases e : p.1 = y
        · rw [if_pos e, if_pos e, if_neg (fun h => hp (by rw [e, h]))]
        · rw [if_neg e, if_neg e]
  · rw [if_neg hk, mget_append_one es k y v hk]
theorem mget_isSome_iff {k : K} : (mget es k).isSome = true ↔ k ∈ es.map Prod.fst := by
  constructor
  · intro h
    obtain ⟨v, hv⟩ := Option.isSome_iff_exists.1 h
    exact List.mem_map.2 ⟨(k, v), mget_mem hv, rfl⟩
  · intro h
    cases hm : mget es k with
    | none => exact absurd h (mget_none.1 hm)
    | some v => rfl
end

end Go.Proofs.YtobdmlejabjmiaaGreatDoor


/- What stays by its kind: what was there and is not of a bad kind. -/
namespace Go.Proofs.YtobdmlejabjmiaaGreatDoor
open Go.RowKit

structure TM (bad : Obj → Prop) (w w' : World) : Prop where
  size : w.heap.size ≤ w'.heap.size
  block : ∀ (b : Nat) (o : Obj), w.heap[b]? = some o → ¬ bad o → w'.heap[b]? = some o
theorem TM.refl (bad : Obj → Prop) (w : World) : TM bad w w := ⟨Nat.le_refl _, fun _ _ h _ => h⟩
theorem TM.trans {bad : Obj → Prop} {w a b : World} (h : TM bad w a) (k : TM bad a b) : TM bad w b := ⟨Nat.le_trans h.size k.size, fun i o hi hb => k.block i o (h.block i o hi hb) hb⟩
theorem TM.below {bad : Obj → Prop} {w a : World} (h : Below w.heap.size w a) : TM bad w a := ⟨h.size, fun i o hi _ => by rw [h.block i (Array.getElem?_eq_some_iff.1 hi).1]; exact hi⟩
theorem TM.mods {bad : Obj → Prop} {S : Nat → Prop} {w a : World} (h : Mods S w a) (hs : ∀ (b : Nat) (o : Obj), w.heap[b]? = some o → S b → bad o) : TM bad w a :=
  ⟨h.size, fun i o hi hb => by rw [h.block i (Array.getElem?_eq_some_iff.1 hi).1 fun hS => hb (hs i o hi hS)]; exact hi⟩
/-- What a call keeps: what lies below n, and what is not of its kind. -/
structure Keep (bad : Obj → Prop) (n : Nat) (w w' : World) : Prop where
  below : Below n w w'
  tm : TM bad w w'
theorem Keep.of_below {bad : Obj → Prop} {n : Nat} {w w' : World} (h : Below w.heap.size w w') (hn : n ≤ w.heap.size) : Keep bad n w w' := ⟨h.mono hn, .below h⟩
theorem Keep.trans {bad : Obj → Prop} {n : Nat} {w a b : World} (h : Keep bad n w a) (k : Keep bad n a b) : Keep bad n w b := ⟨h.below.trans k.below, h.tm.trans k.tm⟩
theorem Keep.refl (bad : Obj → Prop) (n : Nat) (w : World) : Keep bad n w w := ⟨Below.refl _ _, TM.refl _ _⟩
theorem Blk.tm {bad : Obj → Prop} {w w' : World} {g : Nat} {T : TypeId} {cs : Array Value} (h : Blk w g T cs) (k : TM bad w w') (hb : ¬ bad (.cells cs T (0, 0))) : Blk w' g T cs := k.block g _ h hb
theorem MapAt.tm {K : Type} {kv : K → Value} {bad : Obj → Prop} {w w' : World} {m : Nat} {es : List (K × Value)} (h : MapAt kv w m es) (t : TM bad w w') (hb : ∀ a b, ¬ bad (.map a b)) : MapAt kv w' m es := by
  obtain ⟨es0, clock, hm, _⟩ := h.size
  exact h.of_block (by rw [hm]; exact t.block m _ hm (hb _ _))
end Go.Proofs.YtobdmlejabjmiaaGreatDoor


/- DskNum: put together by merge.py of: DiskNum, FallNum, RefDNum. -/
/- Plain: files by their names, changes, a disk: no program. -/
namespace Go.Proofs.YtobdmlejabjmiaaGreatDoor

abbrev Nm := List UInt8
/-- Files, rising by name. -/
abbrev FS := List (Nm × List UInt8)
/-- A change. -/
structure Wr where
  kind : Int
  name : Nm
  off : Nat
  data : List UInt8

def resizeD (b : List UInt8) (n : Nat) : List UInt8 := b.take n ++ List.replicate (n - b.length) 0
def putD (b : List UInt8) (off : Nat) (d : List UInt8) : List UInt8 :=
  (resizeD b (max b.length (off + d.length))).take off ++ d ++ (resizeD b (max b.length (off + d.length))).drop (off + d.length)
theorem resizeD_len (b : List UInt8) (n : Nat) : (resizeD b n).length = n := by
  unfold resizeD; rw [List.length_append, List.length_take, List.length_replicate]; omega
theorem putD_len (b : List UInt8) (off : Nat) (d : List UInt8) : (putD b off d).length = max b.length (off + d.length) := by
  unfold putD
  rw [List.length_append, List.length_append, List.length_take, List.length_drop, resizeD_len]
  omega

def fget (F : FS) (n : Nm) : Option (List UInt8) := (F.find? (fun p => p.1 = n)).map Prod.snd
def fset : FS → Nm → List UInt8 → FS
  | [], n, b => [(n, b)]
  | (m, c) :: r, n, b => if m < n then (m, c) :: fset r n b else if m = n then (n, b) :: r else (n, b) :: (m, c) :: r
def fdel (F : FS) (n : Nm) : FS := F.filter (fun p => p.1 ≠ n)
def Rising (F : FS) : Prop := F.Pairwise (fun p q => p.1 < q.1)
def fsize (F : FS) : Nat := (F.map (fun p => p.2.length)).sum
def doF (F : FS) (w : Wr) : FS :=
  if w.kind = 1 then fset F w.name (putD ((fget F w.name).getD []) w.off w.data)
  else if w.kind = 2 then fset F w.name (resizeD ((fget F w.name).getD []) w.off)
  else if w.kind = 3 then fdel F w.name else F

theorem nm_lt_irrefl (a : Nm) : ¬ a < a := List.lt_irrefl a
theorem nm_trans {a b c : Nm} (h : a < b) (k : b < c) : a < c := List.lt_trans h k
theorem nm_tri (a b : Nm) (h : ¬ a < b) (hne : a ≠ b) : b < a := by
  rcases List.le_total a b with h1 | h1
  · rcases Nat.lt_or_ge 0 1 with _ | _
    · exact absurd (List.le_antisymm h1 (List.not_lt.1 h)) hne
    · omega
  · by_cases h2 : b < a
    · exact h2
    · exact absurd (List.le_antisymm (List.not_lt.1 h2) h1) hne

theorem fget_cons (p : Nm × List UInt8) (F : FS) (n : Nm) : fget (p :: F) n = if p.1 = n then some p.2 else fget F n := by
  unfold fget
  rw [List.find?_cons]
  by_cases h : p.1 = n
  · simp [h]
  · simp [h]
theorem fget_fset (F : FS) (n : Nm) (b : List UInt8) (m : Nm) : fget (fset F n b) m = if m = n then some b else fget F m := by
  induction F with
  | nil =>
    rw [fset, fget_cons]
    by_cases h : n = m
    · subst h; simp
    · rw [if_neg h, if_neg (fun e => h e.symm)]
  | cons p r ih =>
    obtain ⟨k, c⟩ := p
    rw [fset]
    split
    · rename_i hk
      rw [fget_cons, fget_cons, ih]
      by_cases h : k = m
      · subst h
        simp only [if_pos]
        rw [if_neg (fun e => by subst e; exact nm_lt_irrefl _ hk)]
      · simp only [if_neg h]
    · split
      · rename_i hk
        subst hk
        rw [fget_cons, fget_cons]
        by_cases h : k = m
        · subst h; simp
        · simp only [if_neg h]; rw [if_neg (fun e => h e.symm)]
      · rw [fget_cons]
        by_cases h : n = m
        · subst h; simp
        · simp only [if_neg h]; rw [if_neg (fun e => h e.symm)]
theorem fget_fdel (F : FS) (n m : Nm) : fget (fdel F n) m = if m = n then none else fget F m := by
  induction F with
  | nil => simp [fdel, fget]
  | cons p r ih =>
    unfold fdel at ih ⊢
    rw [List.filter_cons]
    by_cases h : p.1 = n
    · rw [if_neg (by simpa using h), ih, fget_cons]
      by_cases hm : m = n
      · simp only [if_pos hm]
      · rw [if_neg hm, if_neg hm, if_neg (fun e => hm (by rw [← e, h]))]
    · rw [if_pos (by simpa using h), fget_cons, fget_cons, ih]
      by_cases hm : p.1 = m
      · rw [if_pos hm, if_pos hm, if_neg (fun e => h (by rw [hm, e]))]
      · rw [if_neg hm, if_neg hm]
theorem fset_mem {F : FS} {n : Nm} {b : List UInt8} {p : Nm × List UInt8} (h : p ∈ fset F n b) : p = (n, b) ∨ p ∈ F := by
  induction F with
  | nil => rw [fset] at h; simpa using h
  | cons q r ih =>
    obtain ⟨k, c⟩ := q
    rw [fset] at h
    split at h
    · rcases List.mem_cons.1 h with h | h
      · exact .inr (by rw [h]; simp)
      · rcases ih h with h | h
        · exact .inl h
        · exact .inr (List.mem_cons_of_mem _ h)
    · split at h
      · rcases List.mem_cons.1 h with h | h
        · exact .inl h
        · exact .inr (List.mem_cons_of_mem _ h)
      · rcases List.mem_cons.1 h with h | h
        · exact .inl h
        · exact .inr h
theorem rising_fset {F : FS} (h : Rising F) (n : Nm) (b : List UInt8) : Rising (fset F n b) := by
  induction F with
  | nil => rw [fset]; exact List.pairwise_singleton _ _
  | cons q r ih =>
    obtain ⟨k, c⟩ := q
    have h' := List.pairwise_cons.1 h
    rw [fset]
    split
    · rename_i hk
      refine List.pairwise_cons.2 ⟨fun p hp => ?_, ih h'.2⟩
      rcases fset_mem hp with hp | hp
      · rw [hp]; exact hk
      · exact h'.1 p hp
    · rename_i hk
      split
      · rename_i hk2
        subst hk2
        exact List.pairwise_cons.2 ⟨h'.1, h'.2⟩
      · rename_i hk2
        have hlt := nm_tri k n hk hk2
        refine List.pairwise_cons.2 ⟨fun p hp => ?_, h⟩
        rcases List.mem_cons.1 hp with hp | hp
        · rw [hp]; exact hlt
        · exact nm_trans hlt (h'.1 p hp)
theorem rising_fdel {F : FS} (h : Rising F) (n : Nm) : Rising (fdel F n) := h.sublist List.filter_sublist
theorem rising_nodup {F : FS} (h : Rising F) : (F.map Prod.fst).Nodup := by
  unfold List.Nodup
  rw [List.pairwise_map]
  exact h.imp fun {p q} hpq e => by rw [e] at hpq; exact nm_lt_irrefl _ hpq
theorem fget_mem {F : FS} {n : Nm} {b : List UInt8} (h : fget F n = some b) : (n, b) ∈ F := by
  unfold fget at h
  obtain ⟨p, hp, hb⟩ := Option.map_eq_some_iff.1 h
  have h1 := List.mem_of_find?_eq_some hp
  have h2 := List.find?_some hp
  simp at h2
  rw [← h2, ← hb]
  exact h1
theorem fget_of_mem {F : FS} (hn : (F.map Prod.fst).Nodup) {n : Nm} {b : List UInt8} (h : (n, b) ∈ F) : fget F n = some b := by
  induction F with
  | nil => simp at h
  | cons p r ih =>
    rw [List.map_cons, List.nodup_cons] at hn
    rw [fget_cons]
    rcases List.mem_cons.1 h with h | h
    · subst h; simp
    · rw [if_neg, ih hn.2 h]
      intro e
      exact hn.1 (e ▸ List.mem_map.2 ⟨_, h, rfl⟩)
theorem fget_none {F : FS} {n : Nm} : fget F n = none ↔ n ∉ F.map Prod.fst := by
  unfold fget
  rw [Option.map_eq_none_iff, List.find?_eq_none]
  constructor
  · intro h hm
    obtain ⟨p, hp, e⟩ := List.mem_map.1 hm
    exact h p hp (by simpa using e)
  · intro h p hp e
    exact h (List.mem_map.2 ⟨p, hp, by simpa using e⟩)
end Go.Proofs.YtobdmlejabjmiaaGreatDoor
/- Plain: what a fall keeps of the changes. -/
namespace Go.Proofs.YtobdmlejabjmiaaGreatDoor

/-- The bit of a mask that speaks of the k-th change. -/
def bitAt (mask : Nat) (k : Nat) : Bool := mask / 2 ^ (k % 64) % 2 == 1
def keepAt (mask : Nat) : Nat → List Wr → List Wr
  | _, [] => []
  | k, u :: r => if bitAt mask k = true then u :: keepAt mask (k + 1) r else keepAt mask (k + 1) r
def isPut (u : Wr) : Bool := u.kind == 1
def cutW (torn : Int) (u : Wr) : Wr := if 0 ≤ torn ∧ torn < (u.data.length : Int) then { u with data := u.data.take torn.toNat } else u
/-- The last data that were put are torn. -/
def cutLast (torn : Int) : List Wr → List Wr
  | [] => []
  | u :: r => if r.any isPut = true then u :: cutLast torn r else if isPut u = true then cutW torn u :: r else u :: r
def fallUs (mask : Nat) (torn : Int) (us : List Wr) : List Wr := cutLast torn (keepAt mask 0 us)

/-- The last put among those that are kept, by its number. -/
def lastPut (mask : Nat) : Nat → List Wr → Int
  | _, [] => -1
  | k, u :: r => if 0 ≤ lastPut mask (k + 1) r then lastPut mask (k + 1) r else if bitAt mask k = true ∧ isPut u = true then (k : Int) else -1
def keepCut (mask : Nat) (last torn : Int) : Nat → List Wr → List Wr
  | _, [] => []
  | k, u :: r => if bitAt mask k = true then (if (k : Int) = last then cutW torn u else u) :: keepCut mask last torn (k + 1) r else keepCut mask last torn (k + 1) r
/-- The place of the last put of a list. -/
def lastIx : List Wr → Int
  | [] => -1
  | u :: r => if r.any isPut = true then lastIx r + 1 else if isPut u = true then 0 else -1
end Go.Proofs.YtobdmlejabjmiaaGreatDoor
/- Plain: the reference's files: where a name stands in a list that rises. -/
namespace Go.Proofs.YtobdmlejabjmiaaGreatDoor

def fpos : FS → Nm → Nat
  | [], _ => 0
  | p :: r, n => if p.1 < n then fpos r n + 1 else 0
def fat : FS → Nm → Bool
  | [], _ => false
  | p :: r, n => if p.1 < n then fat r n else decide (p.1 = n)
end Go.Proofs.YtobdmlejabjmiaaGreatDoor

