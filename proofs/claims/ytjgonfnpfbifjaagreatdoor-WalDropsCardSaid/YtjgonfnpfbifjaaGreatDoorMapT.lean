/- Maps in memory, told by a list of keys and values; keys of any type whose equality the model decides. -/
import Derived.Test.YtjgonfnpfbifjaaGreatDoorFr
import Derived.MapKept
namespace Go.Proofs.YtjgonfnpfbifjaaGreatDoor
open Go.RowKit Go.MapKept

/-- An entry, told by its key, its value and its birth. -/
abbrev Ent (K : Type) := K × Value × Nat
def ent {K : Type} (kv : K → Value) (p : Ent K) : MapEntry := { key := kv p.1, val := p.2.1, born := p.2.2 }

/-- What the model does with keys of a type. -/
structure KeyLaw {K : Type} (P : Program) (T : TypeId) (kv : K → Value) : Prop where
  check : ∀ b k w, (Instr.checkKey b 10000 T (kv k)).run P w = .ok () w
  find : ∀ (k : K) (L : List (Ent K)) (w : World),
    ((Instr.findKey T (kv k) (L.map (ent kv))).run P w = .ok none w ∧ k ∉ L.map (·.1)) ∨ ∃ i p, (Instr.findKey T (kv k) (L.map (ent kv))).run P w = .ok (some (i, p.2.1)) w ∧ L[i]? = some p ∧ p.1 = k
  stays : ∀ k w, (Instr.keyThatStays (kv k) (kv k)).run P w = .ok (kv k) w

/-- The map at block m: its keys, distinct, and what they lead to. -/
def MapAt {K : Type} (kv : K → Value) (w : World) (m : Nat) (es : List (K × Value)) : Prop :=
  ∃ (L : List (Ent K)) (clock : Nat), es = L.map (fun p => (p.1, p.2.1)) ∧ w.heap[m]? = some (.map (L.map (ent kv)).toArray clock) ∧ (L.map (·.1)).Nodup ∧ (L.map (·.2.2)).Nodup ∧ ∀ p ∈ L, p.2.2 < clock

/-- A map with a key laid, or struck. -/
def mput {K : Type} [DecidableEq K] (es : List (K × Value)) (k : K) (v : Value) : List (K × Value) :=
  if k ∈ es.map Prod.fst then es.map (fun p => if p.1 = k then (k, v) else p) else es ++ [(k, v)]
def mdel {K : Type} [DecidableEq K] (es : List (K × Value)) (k : K) : List (K × Value) := es.filter (fun p => p.1 ≠ k)
def mget {K : Type} [DecidableEq K] (es : List (K × Value)) (k : K) : Option Value := (es.find? (fun p => p.1 = k)).map Prod.snd

section
variable {K : Type} {kv : K → Value} {w w' : World} {m : Nat} {es : List (K × Value)}
theorem MapAt.lt (h : MapAt kv w m es) : m < w.heap.size := by
  obtain ⟨L, clock, _, hm, _⟩ := h
  exact lt_of_block hm
theorem MapAt.of_block (h : MapAt kv w m es) (hb : w'.heap[m]? = w.heap[m]?) : MapAt kv w' m es := by
  obtain ⟨L, clock, he, hm, r⟩ := h
  exact ⟨L, clock, he, by rw [hb]; exact hm, r⟩
theorem MapAt.mods {S : Nat → Prop} (h : MapAt kv w m es) (k : Mods S w w') (hn : ¬ S m) : MapAt kv w' m es := h.of_block (k.block m h.lt hn)
theorem MapAt.below (h : MapAt kv w m es) (hb : Below w.heap.size w w') : MapAt kv w' m es := h.of_block (hb.block m h.lt)
theorem MapAt.made (w : World) : MapAt kv (w.alloc (.map #[] 0)) w.heap.size ([] : List (K × Value)) := ⟨[], 0, rfl, heap_alloc_new w _, by simp, by simp, by simp⟩
theorem MapAt.drewN (h : MapAt kv w m es) (n : Nat) : MapAt kv (w.drewN n) m es := h.of_block rfl
theorem MapAt.drew (h : MapAt kv w m es) : MapAt kv w.drew m es := h.of_block rfl
theorem MapAt.nodup (h : MapAt kv w m es) : (es.map Prod.fst).Nodup := by
  obtain ⟨L, clock, rfl, _, hn, _⟩ := h
  rw [List.map_map]
  exact hn
theorem MapAt.setCell (h : MapAt kv w m es) {p : Addr} (hp : m ≠ p.block) (v : Value) : MapAt kv (w.setCell p v) m es := h.of_block (Below.heap_setCell w p v m hp)
theorem MapAt.grown {row : Option Nat} (h : MapAt kv w m es) (hg : w.grownBy w' row) (hk : row ≠ some m) : MapAt kv w' m es := h.of_block (hg.block m h.lt fun e => hk e.symm)
theorem MapAt.ne_cells (h : MapAt kv w m es) {g : Nat} {cs : Array Value} {T : TypeId} {fr : Nat × Nat} (hg : w.heap[g]? = some (.cells cs T fr)) : m ≠ g := by
  rintro rfl
  obtain ⟨L, clock, _, hm, _⟩ := h
  rw [hm] at hg
  cases hg
end

section
variable {K : Type} {P : Program} {M T E : TypeId} {kv : K → Value} {w : World} {m : Nat} {es : List (K × Value)}
theorem MapAt.size (h : MapAt kv w m es) : ∃ es0 clock, w.heap[m]? = some (.map es0 clock) ∧ es0.size = es.length := by
  obtain ⟨L, clock, rfl, hm, _⟩ := h
  exact ⟨_, _, hm, by simp⟩
theorem run_len_map (h : MapAt kv w m es) (hM : P.underlying M = some (.map T E)) (ty : TypeId) : (Builtin.len_ #[M] ty #[.map (some m)]).run P w = .ok (.int .i64 (es.length : Int)) w := by
  obtain ⟨L, clock, rfl, hm, _⟩ := h
  simp [Builtin.len_, run_underlying hM, MapKept.run_getObj_map hm, goInt]

/-- maps.clone's row. -/
theorem MapAt.cloned (h : MapAt kv w m es) {es0 : Array MapEntry} {clock : Nat} (hm : w.heap[m]? = some (.map es0 clock)) : MapAt kv (w.alloc (.map es0 clock)) w.heap.size es := by
  obtain ⟨L, c, he, hm', r⟩ := h
  rw [hm] at hm'
  injection hm' with hm'
  injection hm' with h1 h2
  subst h1 h2
  exact ⟨L, clock, he, heap_alloc_new w _, r⟩
end

theorem eraseIdx_map' {α β : Type} (f : α → β) : ∀ (L : List α) (i : Nat), (L.map f).eraseIdx i = (L.eraseIdx i).map f
  | [], _ => by simp
  | _ :: _, 0 => rfl
  | a :: L, i + 1 => by simp [eraseIdx_map' f L i]
theorem nodup_get_ne {α : Type} {l : List α} (h : l.Nodup) {i j : Nat} (hij : i ≠ j) {a b : α} (hi : l[i]? = some a) (hj : l[j]? = some b) : a ≠ b := by
  obtain ⟨hi1, hi2⟩ := List.getElem?_eq_some_iff.1 hi
  obtain ⟨hj1, hj2⟩ := List.getElem?_eq_some_iff.1 hj
  rcases Nat.lt_or_gt_of_ne hij with hl | hl
  · have := List.pairwise_iff_getElem.1 h i j hi1 hj1 hl
    rw [hi2, hj2] at this
    exact this
  · have := List.pairwise_iff_getElem.1 h j i hj1 hi1 hl
    rw [hi2, hj2] at this
    exact this.symm

section
variable {K : Type} [DecidableEq K] {P : Program} {T M E : TypeId} {kv : K → Value} {w : World} {m : Nat} {es : List (K × Value)}

theorem mget_none {k : K} : mget es k = none ↔ k ∉ es.map Prod.fst := by
  unfold mget
  simp only [Option.map_eq_none_iff, List.find?_eq_none, decide_eq_true_eq, List.mem_map, not_exists, not_and]
theorem mget_some_of_mem (hn : (es.map Prod.fst).Nodup) {k : K} {v : Value} (h : (k, v) ∈ es) : mget es k = some v := by
  induction es with
  | nil => cases h
  | cons p es ih =>
    rw [List.map_cons, List.nodup_cons] at hn
    unfold mget
    rw [List.find?_cons]
    rcases List.mem_cons.1 h with rfl | h
    · simp
    · have : p.1 ≠ k := fun e => hn.1 (by rw [e]; exact List.mem_map.2 ⟨_, h, rfl⟩)
      simp only [this, decide_false]
      exact ih hn.2 h
theorem mget_mem {k : K} {v : Value} (h : mget es k = some v) : (k, v) ∈ es := by
  unfold mget at h
  obtain ⟨p, hp, rfl⟩ := Option.map_eq_some_iff.1 h
  have h1 := List.find?_some hp
  have h2 := List.mem_of_find?_eq_some hp
  simp only [decide_eq_true_eq] at h1
  rw [← h1]
  exact h2

theorem run_lookup_hit (law : KeyLaw P T kv) (h : MapAt kv w m es) (hM : P.underlying M = some (.map T E)) {k : K} {v : Value} (hv : mget es k = some v) (ok : Bool) :
    (Instr.lookup M (.map (some m)) (kv k) ok).run P w = .ok (if ok then .tuple #[v, .bool true] else v) w := by
  have hnd := h.nodup
  obtain ⟨L, clock, rfl, hm, hn, hb, hc⟩ := h
  rcases law.find k L w with ⟨_, hk⟩ | ⟨i, p, hr, hi, hp⟩
  · exfalso
    have := mget_mem hv
    obtain ⟨q, hq, he⟩ := List.mem_map.1 this
    injection he with he1 he2
    exact hk (List.mem_map.2 ⟨q, hq, he1⟩)
  · have hv' : p.2.1 = v := by
      have h1 : mget (L.map fun p => (p.1, p.2.1)) k = some p.2.1 := mget_some_of_mem hnd (List.mem_map.2 ⟨p, List.mem_of_getElem? hi, by rw [hp]⟩)
      rw [hv] at h1
      injection h1 with h1
      exact h1.symm
    subst hv'
    have hr' : Sem.run P (Instr.findKey T (kv k) (L.map (ent kv)).toArray.toList) w = .ok (some (i, p.2.1)) w := by simpa using hr
    simp only [Instr.lookup, Sem.run_bind, run_underlying hM, MapKept.run_getObj_map hm, Result.andThen_ok, Sem.run_pure, law.check, hr']

theorem run_lookup_miss (law : KeyLaw P T kv) (h : MapAt kv w m es) (hM : P.underlying M = some (.map T E)) {z : Value} (hz : (zeroValue E).run P w = .ok z w) {k : K} (hv : mget es k = none) (ok : Bool) :
    (Instr.lookup M (.map (some m)) (kv k) ok).run P w = .ok (if ok then .tuple #[z, .bool false] else z) w := by
  have hnd := h.nodup
  obtain ⟨L, clock, rfl, hm, hn, hb, hc⟩ := h
  rcases law.find k L w with ⟨hr, _⟩ | ⟨i, p, hr, hi, hp⟩
  · have hr' : Sem.run P (Instr.findKey T (kv k) (L.map (ent kv)).toArray.toList) w = .ok none w := by simpa using hr
    simp only [Instr.lookup, Sem.run_bind, run_underlying hM, MapKept.run_getObj_map hm, Result.andThen_ok, Sem.run_pure, law.check, hr', hz]
  · exfalso
    have h1 : mget (L.map fun p => (p.1, p.2.1)) k = some p.2.1 := mget_some_of_mem hnd (List.mem_map.2 ⟨p, List.mem_of_getElem? hi, by rw [hp]⟩)
    rw [hv] at h1
    cases h1

theorem heap_setObj {w : World} {m : Nat} {o o' : Obj} (h : w.heap[m]? = some o') : ({ w with heap := w.heap.setIfInBounds m o } : World).heap[m]? = some o := (heap_set h).1

theorem run_mapUpdate (law : KeyLaw P T kv) (h : MapAt kv w m es) (hM : P.underlying M = some (.map T E)) (k : K) (v : Value) :
    ∃ o, (Instr.mapUpdate M (.map (some m)) (kv k) v).run P w = .ok () { w with heap := w.heap.setIfInBounds m o } ∧ MapAt kv { w with heap := w.heap.setIfInBounds m o } m (mput es k v) := by
  have hnd := h.nodup
  obtain ⟨L, clock, rfl, hm, hn, hb, hc⟩ := h
  rcases law.find k L w with ⟨hr, hk⟩ | ⟨i, p, hr, hi, hp⟩
  · have hr' : Sem.run P (Instr.findKey T (kv k) (L.map (ent kv)).toArray.toList) w = .ok none w := by simpa using hr
    refine ⟨.map ((L.map (ent kv)).toArray.push { key := kv k, val := v, born := clock }) (clock + 1), ?_, L ++ [(k, v, clock)], clock + 1, ?_, ?_, ?_, ?_, ?_⟩
    · simp only [Instr.mapUpdate, Sem.run_bind, run_underlying hM, MapKept.run_getObj_map hm, Result.andThen_ok, Sem.run_pure, law.check, hr', MapKept.run_setObj_map _ hm]
    · rw [mput, if_neg (by rw [List.map_map]; exact hk)]
      simp
    · rw [heap_setObj hm]
      simp [ent]
    · rw [List.map_append]
      refine List.nodup_append.2 ⟨hn, by simp, ?_⟩
      intro a ha b hb'
      simp at hb'
      subst hb'
      rintro rfl
      exact hk ha
    · rw [List.map_append]
      refine List.nodup_append.2 ⟨hb, by simp, ?_⟩
      intro a ha b hb'
      simp at hb'
      subst hb'
      obtain ⟨q, hq, rfl⟩ := List.mem_map.1 ha
      exact Nat.ne_of_lt (hc q hq)
    · intro q hq
      rcases List.mem_append.1 hq with hq | hq
      · exact Nat.lt_succ_of_lt (hc q hq)
      · simp at hq; subst hq; exact Nat.lt_succ_self _
  · have hr' : Sem.run P (Instr.findKey T (kv k) (L.map (ent kv)).toArray.toList) w = .ok (some (i, p.2.1)) w := by simpa using hr
    have hlt : i < L.length := (List.getElem?_eq_some_iff.1 hi).1
    have hgi : L[i] = p := by rw [List.getElem?_eq_getElem hlt] at hi; injection hi
    have hold : (((L.map (ent kv)).toArray[i]?).map (·.key)).getD (kv k) = kv k := by simp [hi, ent, hp]
    refine ⟨.map ((L.map (ent kv)).toArray.modify i fun e => { e with key := kv k, val := v }) clock, ?_, L.map (fun q => if q.1 = k then (k, v, q.2.2) else q), clock, ?_, ?_, ?_, ?_, ?_⟩
    · simp only [Instr.mapUpdate, Sem.run_bind, run_underlying hM, MapKept.run_getObj_map hm, Result.andThen_ok, Sem.run_pure, law.check, hr', hold, law.stays, MapKept.run_setObj_map _ hm]
    · rw [mput, if_pos (by rw [List.map_map]; exact List.mem_map.2 ⟨p, List.mem_of_getElem? hi, hp⟩)]
      simp only [List.map_map]
      refine List.map_congr_left fun q _ => ?_
      simp only [Function.comp]
      split <;> rfl
    · rw [heap_setObj hm]
      congr 2
      apply Array.ext_getElem?
      intro j
      simp only [Array.getElem?_modify, List.getElem?_toArray, List.getElem?_map]
      by_cases hij : i = j
      · subst hij
        simp [hi, hp, ent]
      · rw [if_neg hij]
        cases hj : L[j]? with
        | none => simp
        | some q =>
          have hjl : j < L.length := (List.getElem?_eq_some_iff.1 hj).1
          have hgj : L[j] = q := by rw [List.getElem?_eq_getElem hjl] at hj; injection hj
          have hne : q.1 ≠ k := by
            intro e
            exact nodup_get_ne hn hij (a := k) (b := k) (by simp [hi, hp]) (by simp [hj, e]) rfl
          simp [hne]
    · have : (L.map (fun q => if q.1 = k then (k, v, q.2.2) else q)).map (·.1) = L.map (·.1) := by
        rw [List.map_map]
        refine List.map_congr_left fun q _ => ?_
        simp only [Function.comp]
        split
        · rename_i e; exact e.symm
        · rfl
      rw [this]; exact hn
    · have : (L.map (fun q => if q.1 = k then (k, v, q.2.2) else q)).map (·.2.2) = L.map (·.2.2) := by
        rw [List.map_map]
        refine List.map_congr_left fun q _ => ?_
        simp only [Function.comp]
        split <;> rfl
      rw [this]; exact hb
    · intro q hq
      obtain ⟨q', hq', rfl⟩ := List.mem_map.1 hq
      split
      · exact hc q' hq'
      · exact hc q' hq'

theorem nodup_filter_idx {α β : Type} [DecidableEq β] (f : α → β) (L : List α) (hn : (L.map f).Nodup) (i : Nat) (p : α) (hi : L[i]? = some p) : L.eraseIdx i = L.filter (fun q => f q ≠ f p) := by
  induction L generalizing i with
  | nil => simp at hi
  | cons a L ih =>
    rw [List.map_cons, List.nodup_cons] at hn
    cases i with
    | zero =>
      simp at hi
      subst hi
      simp only [List.eraseIdx_cons_zero]
      rw [List.filter_cons_of_neg (by simp)]
      refine (List.filter_eq_self.2 fun q hq => ?_).symm
      simp only [ne_eq, decide_not, Bool.not_eq_eq_eq_not, Bool.not_true, decide_eq_false_iff_not]
      intro e
      exact hn.1 (by rw [← e]; exact List.mem_map.2 ⟨q, hq, rfl⟩)
    | succ i =>
      simp at hi
      rw [List.eraseIdx_cons_succ, ih hn.2 i hi, List.filter_cons_of_pos]
      simp only [ne_eq, decide_not, Bool.not_eq_eq_eq_not, Bool.not_true, decide_eq_false_iff_not]
      intro e
      exact hn.1 (by rw [e]; exact List.mem_map.2 ⟨p, List.mem_of_getElem? hi, rfl⟩)

theorem run_mapDelete (law : KeyLaw P T kv) (h : MapAt kv w m es) (hM : P.underlying M = some (.map T E)) (k : K) (ty M2 : TypeId) :
    ∃ o, (Builtin.delete_ #[M, M2] ty #[.map (some m), kv k]).run P w = .ok (.tuple #[]) { w with heap := w.heap.setIfInBounds m o } ∧ MapAt kv { w with heap := w.heap.setIfInBounds m o } m (mdel es k) := by
  obtain ⟨L, clock, rfl, hm, hn, hb, hc⟩ := h
  rcases law.find k L w with ⟨hr, hk⟩ | ⟨i, p, hr, hi, hp⟩
  · have hr' : Sem.run P (Instr.findKey T (kv k) (L.map (ent kv)).toArray.toList) w = .ok none w := by simpa using hr
    refine ⟨.map (L.map (ent kv)).toArray clock, ?_, L, clock, ?_, heap_setObj hm, hn, hb, hc⟩
    · simp [Builtin.delete_, run_underlying hM, MapKept.run_getObj_map hm, law.check, hr, MapKept.run_setObj_map _ hm]
    · rw [mdel, List.filter_eq_self.2]
      intro q hq
      obtain ⟨q', hq', rfl⟩ := List.mem_map.1 hq
      simp only [ne_eq, decide_not, Bool.not_eq_eq_eq_not, Bool.not_true, decide_eq_false_iff_not]
      intro e
      exact hk (List.mem_map.2 ⟨q', hq', e⟩)
  · have hlt : i < L.length := (List.getElem?_eq_some_iff.1 hi).1
    have hf := nodup_filter_idx (·.1) L hn i p hi
    have hsub : (L.eraseIdx i).Sublist L := List.eraseIdx_sublist _ _
    refine ⟨.map ((L.map (ent kv)).toArray.eraseIdxIfInBounds i) clock, ?_, L.eraseIdx i, clock, ?_, ?_, (hsub.map _).nodup hn, (hsub.map _).nodup hb, fun q hq => hc q (hsub.subset hq)⟩
    · simp [Builtin.delete_, run_underlying hM, MapKept.run_getObj_map hm, law.check, hr, MapKept.run_setObj_map _ hm]
    · rw [mdel, hf, List.filter_map]
      congr 1
      refine List.filter_congr fun q _ => ?_
      simp [hp]
    · rw [heap_setObj hm]
      congr 2
      simp [Array.eraseIdxIfInBounds, hlt, eraseIdx_map']

end

theorem run_makeMap {P : Program} (M : TypeId) (w : World) : (Instr.makeMap M none).run P w = .ok (.map (some w.heap.size)) (w.alloc (.map #[] 0)) := by
  simp [Instr.makeMap]

/-- The world with another object at block m. -/
def wset (w : World) (m : Nat) (ob : Obj) : World := { w with heap := w.heap.setIfInBounds m ob }
theorem wset_other (w : World) (m : Nat) (ob : Obj) (k : Nat) (h : k ≠ m) : (wset w m ob).heap[k]? = w.heap[k]? := by simp [wset, Array.getElem?_setIfInBounds, Ne.symm h]
theorem wset_size (w : World) (m : Nat) (ob : Obj) : (wset w m ob).heap.size = w.heap.size := by simp [wset]
theorem Mods.wset {S : Nat → Prop} {w a : World} (h : Mods S w a) (g : Nat) (hp : S g ∨ w.heap.size ≤ g) (o : Obj) : Mods S w (wset a g o) := h.setObj g hp o

section
variable {K : Type} [DecidableEq K] {P : Program} {T M E : TypeId} {kv : K → Value} {w : World} {m : Nat} {es : List (K × Value)} {o : Oper} {a : Act} {N : Act → World → Prop} {Q : Exit → Act → World → Prop}
theorem op_mapUpdate (law : KeyLaw P T kv) (h : MapAt kv w m es) (mo ko vo : Operand) (ho : o.op = .mapUpdate M mo ko vo) (hM : P.underlying M = some (.map T E)) (k : K) (v : Value) (hm : a.eval mo = .map (some m)) (hk : a.eval ko = kv k) (hv : a.eval vo = v)
    (hN : ∀ ob, MapAt kv (wset w m ob) m (mput es k v) → N (a.put o.dst undef) (wset w m ob)) : o.wp P a w N Q := by
  obtain ⟨ob, hr, hmap⟩ := run_mapUpdate law h hM k v
  unfold Oper.wp execOp
  simp only [ho, hm, hk, hv, Sem.run_bind, hr, Result.andThen_ok, Sem.run_pure]
  exact hN ob hmap
theorem op_mapDelete (law : KeyLaw P T kv) (h : MapAt kv w m es) (mo ko : Operand) (ho : o.op = .call { callee := .builtin .delete, args := #[mo, ko], argTypes := #[M, T] }) (hM : P.underlying M = some (.map T E)) (k : K) (hm : a.eval mo = .map (some m)) (hk : a.eval ko = kv k)
    (hN : ∀ ob, MapAt kv (wset w m ob) m (mdel es k) → N (a.put o.dst (.tuple #[])) (wset w m ob)) : o.wp P a w N Q := by
  obtain ⟨ob, hr, hmap⟩ := run_mapDelete law h hM k o.type T
  unfold Oper.wp execOp
  simp only [ho, resolve, invoke, builtin, Sem.run_bind, Sem.run_pure, Result.andThen_ok, List.map_toArray, List.map_cons, List.map_nil, hm, hk, hr]
  exact hN ob hmap
end

/-- Keys that are numbers of one kind, bools, strings. -/
theorem KeyLaw.scalar {K : Type} {P : Program} {T : TypeId} {d : TypeDesc} {kv : K → Value} (ht : P.underlying T = some d) (hk : ∀ k, IsKey d (kv k)) (hinj : ∀ x y, kv x = kv y → x = y) : KeyLaw P T kv := by
  refine ⟨fun b k w => run_checkKey ht (hk k) b 9999, fun k L w => ?_, fun k w => run_keyThatStays (hk k)⟩
  have hall : ∀ x ∈ L.map (ent kv), IsKey d x.key := by
    intro x hx
    obtain ⟨p, _, rfl⟩ := List.mem_map.1 hx
    exact hk _
  rcases findNow_spec (hk k) (L.map (ent kv)) 0 hall with ⟨h1, h2⟩ | ⟨j, e, h1, h2, h3⟩
  · refine .inl ⟨run_findKey ht h1, fun hmem => ?_⟩
    obtain ⟨p, hp, rfl⟩ := List.mem_map.1 hmem
    exact h2 _ (List.mem_map.2 ⟨p, hp, rfl⟩) rfl
  · rw [List.getElem?_map] at h2
    obtain ⟨p, hp, rfl⟩ := Option.map_eq_some_iff.1 h2
    rw [Nat.zero_add] at h1
    exact .inr ⟨j, p, run_findKey ht h1, hp, hinj _ _ h3⟩
/-- Keys that are structs: each comparison asked. -/
theorem KeyLaw.asked {K : Type} [DecidableEq K] {P : Program} {T : TypeId} {d : TypeDesc} {kv : K → Value} (ht : P.underlying T = some d) (hs : ∀ a b, Instr.sameNow d a b = none)
    (hcheck : ∀ b k w, (Instr.checkKey b 10000 T (kv k)).run P w = .ok () w) (heq : ∀ x y w, (Op.equal T (kv x) (kv y)).run P w = .ok (decide (x = y)) w) (hstay : ∀ k, Instr.sameBits 10000 (kv k) (kv k) = true) : KeyLaw P T kv := by
  refine ⟨hcheck, fun k L w => ?_, fun k w => by simp [Instr.keyThatStays, hstay k]⟩
  have ask : ∀ (L : List (Ent K)) (i : Nat), ((Instr.findAsking T (kv k) (L.map (ent kv)) i).run P w = .ok none w ∧ k ∉ L.map (·.1)) ∨ ∃ j p, (Instr.findAsking T (kv k) (L.map (ent kv)) i).run P w = .ok (some (i + j, p.2.1)) w ∧ L[j]? = some p ∧ p.1 = k := by
    intro L
    induction L with
    | nil => intro i; exact .inl ⟨by simp [Instr.findAsking], by simp⟩
    | cons p L ih =>
      intro i
      by_cases hp : k = p.1
      · exact .inr ⟨0, p, by simp [Instr.findAsking, ent, heq, hp], rfl, hp.symm⟩
      · rcases ih (i + 1) with ⟨h1, h2⟩ | ⟨j, q, h1, h2, h3⟩
        · exact .inl ⟨by simp only [List.map_cons, Instr.findAsking, ent, Sem.run_bind, heq, Result.andThen_ok]; simp [hp]; exact h1, by simp [hp]; simpa using h2⟩
        · exact .inr ⟨j + 1, q, by simp only [List.map_cons, Instr.findAsking, ent, Sem.run_bind, heq, Result.andThen_ok]; simp [hp]; rw [show i + (j + 1) = i + 1 + j by omega]; exact h1, by simpa using h2, h3⟩
  cases L with
  | nil => exact .inl ⟨by simp [Instr.findKey, run_underlying ht, Instr.findNow], by simp⟩
  | cons p L =>
    have hn : Instr.findNow d (kv k) ((p :: L).map (ent kv)) 0 = none := by simp [Instr.findNow, hs]
    have hf : (Instr.findKey T (kv k) ((p :: L).map (ent kv))).run P w = (Instr.findAsking T (kv k) ((p :: L).map (ent kv))).run P w := by
      simp only [Instr.findKey, Sem.run_bind, run_underlying ht, Result.andThen_ok, hn]
    rcases ask (p :: L) 0 with ⟨h1, h2⟩ | ⟨j, q, h1, h2, h3⟩
    · exact .inl ⟨by rw [hf]; exact h1, h2⟩
    · rw [Nat.zero_add] at h1
      exact .inr ⟨j, q, by rw [hf]; exact h1, h2, h3⟩
end Go.Proofs.YtjgonfnpfbifjaaGreatDoor
