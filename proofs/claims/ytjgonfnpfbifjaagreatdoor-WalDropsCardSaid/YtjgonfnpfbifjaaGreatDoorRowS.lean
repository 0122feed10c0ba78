/- A row of structs of the call's own: told by each one's cells; append of one, and of many. -/
import Derived.Test.YtjgonfnpfbifjaaGreatDoorFr
import Derived.Test.YtjgonfnpfbifjaaGreatDoorArgsS
import Derived.Test.YtjgonfnpfbifjaaGreatDoorPlanS
import Derived.Laws.OwnMore
namespace Go.Proofs.YtjgonfnpfbifjaaGreatDoor
open Go.RowKit

/-- A row of structs of k cells, of the call's own. -/
def OR (w : World) (base : Nat) (e : TypeId) (k : Nat) (A : Option Addr) (c : Nat) (rows : List (List Value)) : Prop :=
  w.ownsRow base e k (.slice A rows.length c) rows.length rows.flatten ∧ ∀ r ∈ rows, r.length = k

theorem flatten_get {α : Type} {k : Nat} : ∀ {rows : List (List α)}, (∀ r ∈ rows, r.length = k) → ∀ {i : Nat} {r : List α}, rows[i]? = some r → ∀ {j : Nat} {v : α}, r[j]? = some v → rows.flatten[i * k + j]? = some v
  | [], _, i, r, hi, _, _, _ => by simp at hi
  | r0 :: rows, h, 0, r, hi, j, v, hj => by
    simp at hi
    subst hi
    rw [List.flatten_cons, Nat.zero_mul, Nat.zero_add, List.getElem?_append_left (List.getElem?_eq_some_iff.1 hj).1]
    exact hj
  | r0 :: rows, h, i + 1, r, hi, j, v, hj => by
    simp at hi
    have h0 := h r0 List.mem_cons_self
    rw [List.flatten_cons, List.getElem?_append_right (by rw [h0, Nat.succ_mul]; omega), h0, show (i + 1) * k + j - k = i * k + j by rw [Nat.succ_mul]; omega]
    exact flatten_get (fun r hr => h r (List.mem_cons_of_mem _ hr)) hi hj
theorem flatten_len {α : Type} {k : Nat} : ∀ {rows : List (List α)}, (∀ r ∈ rows, r.length = k) → rows.flatten.length = rows.length * k
  | [], _ => by simp
  | r0 :: rows, h => by
    rw [List.flatten_cons, List.length_append, h r0 List.mem_cons_self, flatten_len (fun r hr => h r (List.mem_cons_of_mem _ hr)), List.length_cons, Nat.succ_mul]; omega
theorem flatten_take {α : Type} {k : Nat} : ∀ {rows : List (List α)}, (∀ r ∈ rows, r.length = k) → ∀ i, rows.flatten.take (i * k) = (rows.take i).flatten
  | [], _, i => by simp
  | r0 :: rows, h, 0 => by simp
  | r0 :: rows, h, i + 1 => by
    have h0 := h r0 List.mem_cons_self
    rw [List.flatten_cons, List.take_succ_cons, List.flatten_cons, List.take_append, h0, List.take_of_length_le (by rw [h0, Nat.succ_mul]; omega), show (i + 1) * k - k = i * k by rw [Nat.succ_mul]; omega, flatten_take (fun r hr => h r (List.mem_cons_of_mem _ hr))]
theorem flatten_drop {α : Type} {k : Nat} : ∀ {rows : List (List α)}, (∀ r ∈ rows, r.length = k) → ∀ i, rows.flatten.drop (i * k) = (rows.drop i).flatten
  | [], _, i => by simp
  | r0 :: rows, h, 0 => by simp
  | r0 :: rows, h, i + 1 => by
    have h0 := h r0 List.mem_cons_self
    rw [List.flatten_cons, List.drop_succ_cons, List.drop_append, h0, List.drop_of_length_le (by rw [h0, Nat.succ_mul]; omega), show (i + 1) * k - k = i * k by rw [Nat.succ_mul]; omega, flatten_drop (fun r hr => h r (List.mem_cons_of_mem _ hr)), List.nil_append]

section
variable {w w' : World} {base c k : Nat} {e : TypeId} {A : Option Addr} {rows : List (List Value)}
theorem OR.nil (w : World) (base : Nat) (e : TypeId) (k : Nat) : OR w base e k none 0 [] := ⟨by simpa using World.ownsRow_nil w base e k, by simp⟩
theorem OR.form (h : OR w base e k A c rows) : (A = none ∧ c = 0 ∧ rows = []) ∨ ∃ g, A = some ⟨g, 0, none⟩ ∧ base ≤ g ∧ g < w.heap.size ∧ rows.length ≤ c ∧ c ≤ maxLen := by
  rcases h.1.2 with ⟨hv, hn⟩ | ⟨g, cap, cur, hv, hb, hg, hc, hm, _⟩
  · injection hv with h1 h2 h3
    exact .inl ⟨h1, h3, List.eq_nil_of_length_eq_zero hn⟩
  · injection hv with h1 h2 h3
    subst h3
    exact .inr ⟨g, h1, hb, (Array.getElem?_eq_some_iff.1 hg).1, hc, hm⟩
theorem OR.cap (h : OR w base e k A c rows) : rows.length ≤ c ∧ c ≤ 9223372036854775807 := by
  rcases h.form with ⟨_, rfl, rfl⟩ | ⟨g, _, _, _, h1, h2⟩
  · simp
  · unfold maxLen at h2; omega
theorem OR.blk_lt (h : OR w base e k A c rows) : ∀ b, A.map (·.block) = some b → base ≤ b ∧ b < w.heap.size := by
  intro b hb
  rcases h.form with ⟨rfl, _⟩ | ⟨g, rfl, h1, h2, _⟩
  · simp at hb
  · have : g = b := by simpa using hb
    subst this
    exact ⟨h1, h2⟩
theorem OR.blk (h : OR w base e k A c rows) : ∀ b, A.map (·.block) = some b → ∃ cs, w.heap[b]? = some (.cells cs e (0, 0)) := by
  intro b hb
  rcases h.1.2 with ⟨hv, _⟩ | ⟨g, cap, cur, hv, _, hg, _⟩
  · injection hv with h1 h2 h3
    rw [h1] at hb
    simp at hb
  · injection hv with h1 h2 h3
    rw [h1] at hb
    have : g = b := by simpa using hb
    subst this
    exact ⟨_, hg⟩
theorem OR.of_own {v : Value} {n : Nat} (h : w.ownsRow base e k v n rows.flatten) (hk : ∀ r ∈ rows, r.length = k) (k0 : 0 < k) : ∃ A c, v = .slice A rows.length c ∧ OR w base e k A c rows := by
  have hl : n = rows.length := by
    have := h.1
    rw [flatten_len hk] at this
    exact (Nat.eq_of_mul_eq_mul_right k0 this).symm
  subst hl
  rcases h.2 with ⟨rfl, hn⟩ | ⟨g, cap, cur, rfl, rest⟩
  · have : rows = [] := List.eq_nil_of_length_eq_zero hn
    subst this
    exact ⟨none, 0, rfl, OR.nil _ _ _ _⟩
  · exact ⟨_, _, rfl, h, hk⟩
theorem OR.rs (h : OR w base e k A c rows) : RS w A k rows := by
  refine ⟨fun hn => ?_⟩
  rcases h.form with ⟨_, _, rfl⟩ | ⟨g, rfl, _, hg, _⟩
  · simp at hn
  · refine ⟨g, 0, rfl, hg, fun i cs hi j v hj => ?_⟩
    have hf := flatten_get h.2 hi hj
    have hl := (List.getElem?_eq_some_iff.1 hf).1
    rw [flatten_len h.2] at hl
    rw [Nat.zero_add, World.ownsRow.cellAt h.1 _ hl]
    exact hf
theorem OR.of_block (h : OR w base e k A c rows) (hb : ∀ b, A.map (·.block) = some b → w'.heap[b]? = w.heap[b]?) : OR w' base e k A c rows := by
  refine ⟨⟨h.1.1, ?_⟩, h.2⟩
  rcases h.1.2 with h2 | ⟨g, cap, cur, hv, hg, hh, r⟩
  · exact .inl h2
  · injection hv with hv1 hv2 hv3
    subst hv1 hv3
    exact .inr ⟨g, _, cur, rfl, hg, by rw [hb g rfl]; exact hh, r⟩
theorem OR.mods {S : Nat → Prop} (h : OR w base e k A c rows) (m : Mods S w w') (hn : ∀ b, A.map (·.block) = some b → ¬ S b) : OR w' base e k A c rows :=
  h.of_block fun b hb => m.block b (h.blk_lt b hb).2 (hn b hb)
theorem OR.below (h : OR w base e k A c rows) (hb : Below w.heap.size w w') : OR w' base e k A c rows := h.of_block fun b hb' => hb.block b (h.blk_lt b hb').2
theorem OR.mono {base' : Nat} (h : OR w base e k A c rows) (hb : base' ≤ base) : OR w base' e k A c rows := by
  refine ⟨⟨h.1.1, ?_⟩, h.2⟩
  rcases h.1.2 with h1 | ⟨g, cap, cur, hv, hbg, rest⟩
  · exact .inl h1
  · exact .inr ⟨g, cap, cur, hv, by omega, rest⟩
theorem OR.made0 (w : World) {base : Nat} (e : TypeId) (k : Nat) (hb : base ≤ w.heap.size) : OR (w.alloc (.cells #[] e)) base e k (some ⟨w.heap.size, 0, none⟩) 0 [] :=
  ⟨by simpa using World.ownsRow_made (e := e) (size := k) w #[] 0 hb (Nat.zero_le _) (by simp), by simp⟩
end

/-- 'append(s, x...)' on structs of the call's own. -/
theorem op_appendS {P : Program} (w : World) {o : Oper} {a : Act} {K : Act → World → Prop} {Q : Exit → Act → World → Prop} (s x : Operand) (t e : TypeId) {i : TypeInfo} {z : Value} {k bytes : Nat}
    (ho : o.op = .call { callee := .builtin .append, args := #[s, x], argTypes := #[t, t] })
    (ht : P.underlying t = some (.slice e)) (hi : P.info? e = some i) (hz0 : i.zero = some z) (hz1 : i.size = k) (hz2 : i.bytes = bytes) (hzs : z.cells.size = k) (k0 : 0 < k)
    (base : Nat) (A X : Option Addr) (c d : Nat) (rows news : List (List Value)) (hs : a.eval s = .slice A rows.length c) (hx : a.eval x = .slice X news.length d)
    (hown : OR w base e k A c rows) (hv : RS w X k news) (hk : ∀ r ∈ news, r.length = k) (h1 : ∀ r ∈ news, ∀ v ∈ r, v.oneCell' = true) (hlen : (rows.length + news.length) * bytes ≤ 140737488355328) (hl2 : rows.length + news.length ≤ 140737488355328) (hbase : base ≤ w.heap.size)
    (h : ∀ (ys : List (List Value)) (A' : Option Addr) (c' : Nat) (w' : World), Hid (ys = rows ++ news) → ys.length ≤ rows.length + news.length → rows.length + news.length ≤ ys.length → OR w' base e k A' c' ys → w.grownBy w' (A.map (·.block)) → (A'.map (·.block) = A.map (·.block) ∨ A'.map (·.block) = some w.heap.size) →
      K (a.put o.dst (.slice A' ys.length c')) w') : o.wp P a w K Q := by
  rcases Nat.eq_zero_or_pos news.length with h0 | h0
  · have hm0 : news = [] := List.eq_nil_of_length_eq_zero h0
    subst hm0
    have hrun : (Builtin.append_ #[t, t] o.type #[.slice A rows.length c, .slice X 0 d]).run P w = .ok (.slice A rows.length c) w := by
      rcases hown.form with ⟨rfl, rfl, rfl⟩ | ⟨g, rfl, _, _, hc, _⟩
      · rcases X with _ | X
        · simp [Builtin.append_, run_underlying ht, sizeOf, typeInfo, hi, Builtin.lenOf, Builtin.firstCells]
        · have hf := run_firstCells_some (P := P) w i.size 0 X 0 d [] (by simp) (by simp)
          simp [Builtin.append_, run_underlying ht, sizeOf, typeInfo, hi, Builtin.lenOf, hf]
      · rcases X with _ | X
        · simp [Builtin.append_, run_underlying ht, sizeOf, typeInfo, hi, Builtin.lenOf, Builtin.firstCells, hc, storeCells]
        · have hf := run_firstCells_some (P := P) w i.size 0 X 0 d [] (by simp) (by simp)
          simp [Builtin.append_, run_underlying ht, sizeOf, typeInfo, hi, Builtin.lenOf, hf, hc, storeCells]
    unfold Oper.wp execOp
    simp only [List.length_nil] at hx
    simp only [ho, resolve, invoke, builtin, Sem.run_bind, Sem.run_pure, Result.andThen_ok, List.map_toArray, List.map_cons, List.map_nil, hs, hx, hrun]
    exact h rows A c w (Lib.hid (by simp)) (by simp) (by simp) hown (World.grownBy.refl w _) (.inl rfl)
  · obtain ⟨b, off, rfl, hb, hc⟩ := hv.at_ h0
    have hadd : ∀ j, (⟨b, off, none⟩ : Addr).add j = ⟨b, off + j, none⟩ := by intro j; unfold Addr.add; split <;> simp_all
    have hget : ∀ j u, news.flatten[j]? = some u → w.cell? ((⟨b, off, none⟩ : Addr).add j) = some u := by
      intro j u hu
      have hjl := (List.getElem?_eq_some_iff.1 hu).1
      rw [flatten_len hk] at hjl
      have hq : j / k < news.length := (Nat.div_lt_iff_lt_mul k0).2 hjl
      have hr : j % k < news[j / k].length := by rw [hk _ (List.getElem_mem hq)]; exact Nat.mod_lt _ k0
      have h2 := flatten_get hk (List.getElem?_eq_getElem hq) (List.getElem?_eq_getElem hr)
      have hj : j / k * k + j % k = j := by rw [Nat.mul_comm]; exact Nat.div_add_mod j k
      rw [hj, hu] at h2
      injection h2 with h2
      have h3 := hc _ _ (List.getElem?_eq_getElem hq) _ _ (List.getElem?_eq_getElem hr)
      rw [hadd, h2, ← h3]
      congr 2
      omega
    refine op_append w s x t ho base e i z k bytes ht hi hz0 hz1 hz2 hzs k0 _ rows.length rows.flatten hs hown.1 ⟨b, off, none⟩ news.length d news.flatten hx (by rw [flatten_len hk]) hget ?_ (by unfold maxLen; omega) hlen hbase ?_
    · intro u hu
      obtain ⟨r, hr, hur⟩ := List.mem_flatten.1 hu
      exact h1 r hr u hur
    · intro v' w' hown' hg hat
      rw [← List.flatten_append] at hown'
      obtain ⟨A', c', hv', hob⟩ := OR.of_own hown' (fun r hr => by
        rcases List.mem_append.1 hr with hr | hr
        · exact hown.2 r hr
        · exact hk r hr) k0
      subst hv'
      rw [own_blk] at hg
      rw [own_blk, own_blk] at hat
      exact h _ _ _ _ (Lib.hid rfl) (by simp) (by simp) hob hg hat

theorem RS.take {w : World} {A : Option Addr} {k : Nat} {L : List (List Value)} (h : RS w A k L) (j : Nat) : RS w A k (L.take j) := by
  refine ⟨fun hn => ?_⟩
  obtain ⟨b, off, e, hb, hc⟩ := h.at_ (by simp at hn; omega)
  refine ⟨b, off, e, hb, fun i cs hi => hc i cs ?_⟩
  rw [List.getElem?_take] at hi
  split at hi
  · exact hi
  · cases hi
theorem RS.drop {w : World} {b off k : Nat} {L : List (List Value)} (h : RS w (some ⟨b, off, none⟩) k L) (j : Nat) : RS w (some ⟨b, off + j * k, none⟩) k (L.drop j) := by
  refine ⟨fun hn => ?_⟩
  obtain ⟨b', off', e, hb, hc⟩ := h.at_ (by simp at hn; omega)
  injection e with e
  injection e with e1 e2
  subst e1 e2
  refine ⟨_, _, rfl, hb, fun i cs hi q v hq => ?_⟩
  rw [List.getElem?_drop] at hi
  have := hc _ cs hi q v hq
  rw [Nat.add_mul] at this
  rw [show off + j * k + i * k + q = off + (j * k + i * k) + q by omega]
  exact this
theorem RS.nil {w : World} {A : Option Addr} {k : Nat} : RS w A k [] := ⟨by simp⟩
/-- 'append' of structs, at the walk. -/
theorem wp_appendS {P : Program} (w : World) {ops : Array Oper} {rest : List Oper} {o : Oper} {a : Act} {Q : Exit → Act → World → Prop} (hgd : o.guard = none) (s x : Operand) (t e : TypeId) {i : TypeInfo} {z : Value} {k bytes : Nat}
    (ho : o.op = .call { callee := .builtin .append, args := #[s, x], argTypes := #[t, t] })
    (ht : P.underlying t = some (.slice e)) (hi : P.info? e = some i) (hz0 : i.zero = some z) (hz1 : i.size = k) (hz2 : i.bytes = bytes) (hzs : z.cells.size = k) (k0 : 0 < k)
    (base : Nat) (A X : Option Addr) (c d : Nat) (rows news : List (List Value)) (hs : a.eval s = .slice A rows.length c) (hx : a.eval x = .slice X news.length d)
    (hown : OR w base e k A c rows) (hv : RS w X k news) (hk : ∀ r ∈ news, r.length = k) (h1 : ∀ r ∈ news, ∀ v ∈ r, v.oneCell' = true) (hlen : (rows.length + news.length) * bytes ≤ 140737488355328) (hl2 : rows.length + news.length ≤ 140737488355328) (hbase : base ≤ w.heap.size)
    (h : ∀ (ys : List (List Value)) (A' : Option Addr) (c' : Nat) (w' : World), Hid (ys = rows ++ news) → ys.length ≤ rows.length + news.length → rows.length + news.length ≤ ys.length → OR w' base e k A' c' ys → w.grownBy w' (A.map (·.block)) → (A'.map (·.block) = A.map (·.block) ∨ A'.map (·.block) = some w.heap.size) →
      wpList P ops Q rest (a.put o.dst (.slice A' ys.length c')) w') : wpList P ops Q (o :: rest) a w :=
  wpList_plain hgd fun K hK => op_appendS w s x t e ho ht hi hz0 hz1 hz2 hzs k0 base A X c d rows news hs hx hown hv hk h1 hlen hl2 hbase fun ys A' c' w' h1 h2 h3 h4 h5 h6 => hK _ _ (h ys A' c' w' h1 h2 h3 h4 h5 h6)

/-- One struct, laid out at block g. -/
theorem RS.lit {w : World} {g k : Nat} {T : TypeId} {r : List Value} (h : Blk w g T r.toArray) : RS w (some ⟨g, 0, none⟩) k [r] := by
  refine ⟨fun _ => ⟨g, 0, rfl, h.lt, fun i cs hi j v hj => ?_⟩⟩
  cases i with
  | succ i => simp at hi
  | zero =>
    simp at hi
    subst hi
    have := h.cell j (v := v) (by simpa using hj)
    simpa using this

/-! Blocks of unlike kinds are unlike blocks. -/
theorem OB.blk {w : World} {base c : Nat} {A : Option Addr} {l : List UInt8} (h : OB w base A c l) : ∀ b, A.map (·.block) = some b → ∃ cs, w.heap[b]? = some (.cells cs 5 (0, 0)) := by
  intro b hb
  rcases h.2 with ⟨hv, _⟩ | ⟨g, cap, cur, hv, _, hg, _⟩
  · injection hv with h1 h2 h3
    rw [h1] at hb
    simp at hb
  · injection hv with h1 h2 h3
    rw [h1] at hb
    have : g = b := by simpa using hb
    subst this
    exact ⟨_, hg⟩
theorem cells_ne {w : World} {b g : Nat} {cs ds : Array Value} {T U : TypeId} {f f' : Nat × Nat} (h : w.heap[b]? = some (.cells cs T f)) (k : w.heap[g]? = some (.cells ds U f')) (hne : T ≠ U) : b ≠ g := by
  rintro rfl
  rw [h] at k
  injection k with k
  injection k with _ k
  exact hne k
theorem OB.ne_row {w : World} {base c base' c' k : Nat} {A B : Option Addr} {l : List UInt8} {e : TypeId} {rows : List (List Value)} (h : OB w base A c l) (r : OR w base' e k B c' rows) (hne : 5 ≠ e) : ∀ b, B.map (·.block) = some b → A.map (·.block) ≠ some b := by
  intro b hb ha
  obtain ⟨cs, h1⟩ := h.blk b ha
  obtain ⟨ds, h2⟩ := r.blk b hb
  exact cells_ne h1 h2 hne rfl
theorem OB.ne_var {w : World} {base c g : Nat} {A : Option Addr} {l : List UInt8} {T : TypeId} {cs : Array Value} (h : OB w base A c l) (k : Blk w g T cs) (hne : 5 ≠ T) : A.map (·.block) ≠ some g := by
  intro ha
  obtain ⟨ds, h1⟩ := h.blk g ha
  exact cells_ne h1 k hne rfl
theorem OR.ne_var {w : World} {base c k g : Nat} {A : Option Addr} {e T : TypeId} {rows : List (List Value)} {cs : Array Value} (h : OR w base e k A c rows) (b : Blk w g T cs) (hne : e ≠ T) : A.map (·.block) ≠ some g := by
  intro ha
  obtain ⟨ds, h1⟩ := h.blk g ha
  exact cells_ne h1 b hne rfl
theorem OB.of_block {w w' : World} {base c : Nat} {A : Option Addr} {l : List UInt8} (h : OB w base A c l) (hb : ∀ b, A.map (·.block) = some b → w'.heap[b]? = w.heap[b]?) : OB w' base A c l := by
  refine ⟨h.1, ?_⟩
  rcases h.2 with h2 | ⟨g, cap, cur, hv, hg, hh, r⟩
  · exact .inl h2
  · injection hv with hv1 hv2 hv3
    subst hv1 hv3
    exact .inr ⟨g, _, cur, rfl, hg, by rw [hb g rfl]; exact hh, r⟩
theorem OB.grown_row {w w' : World} {base c : Nat} {A : Option Addr} {l : List UInt8} {row : Option Nat} (h : OB w base A c l) (hg : w.grownBy w' row) (hk : ∀ k, row = some k → A.map (·.block) ≠ some k) : OB w' base A c l :=
  h.of_block fun b hb => hg.block b (h.blk_lt b hb).2 fun e => hk b e.symm hb
theorem OR.grown_row {w w' : World} {base c k : Nat} {e : TypeId} {A : Option Addr} {rows : List (List Value)} {row : Option Nat} (h : OR w base e k A c rows) (hg : w.grownBy w' row) (hk : ∀ b, row = some b → A.map (·.block) ≠ some b) : OR w' base e k A c rows :=
  h.of_block fun b hb => hg.block b (h.blk_lt b hb).2 fun e => hk b e.symm hb
theorem OB.setCell_ne {w : World} {base c : Nat} {A : Option Addr} {l : List UInt8} (h : OB w base A c l) {p : Addr} (hp : A.map (·.block) ≠ some p.block) (v : Value) : OB (w.setCell p v) base A c l :=
  h.of_block fun b hb => Below.heap_setCell w p v b fun e => hp (by rw [← e]; exact hb)
theorem OR.setCell_ne {w : World} {base c k : Nat} {e : TypeId} {A : Option Addr} {rows : List (List Value)} (h : OR w base e k A c rows) {p : Addr} (hp : A.map (·.block) ≠ some p.block) (v : Value) : OR (w.setCell p v) base e k A c rows :=
  h.of_block fun b hb => Below.heap_setCell w p v b fun e => hp (by rw [← e]; exact hb)
end Go.Proofs.YtjgonfnpfbifjaaGreatDoor
