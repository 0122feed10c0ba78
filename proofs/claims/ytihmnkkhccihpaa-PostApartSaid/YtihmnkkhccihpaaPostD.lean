/- slices.Delete of one letter; Take. -/
import Derived.Test.YtihmnkkhccihpaaPostC
namespace Go.Proofs.Ytihmnkkhccihpaa
open Go.RowKit

theorem OR.cur {w : World} {base k b c : Nat} {e : TypeId} {rows : List (List Value)} (h : OR w base e k (some ⟨b, 0, none⟩) c rows) : ∃ cur : Array Value, w.heap[b]? = some (.cells cur e (0, 0)) ∧ base ≤ b ∧ rows.length ≤ c ∧ c ≤ maxLen ∧ cur.size = c * k ∧ cur.toList.take (rows.length * k) = rows.flatten := by
  rcases h.1.2 with ⟨hv, _⟩ | ⟨g, cap, cur, hv, hb, hg, hc, hm, hs, ht⟩
  · cases hv
  · injection hv with h1 h2 h3
    injection h1 with h1
    injection h1 with h1
    subst h1 h3
    exact ⟨cur, hg, hb, hc, hm, hs, ht⟩
theorem OR.of_cur {w : World} {base k b c : Nat} {e : TypeId} {rows : List (List Value)} {cur : Array Value} (hg : w.heap[b]? = some (.cells cur e (0, 0))) (hb : base ≤ b) (hc : rows.length ≤ c) (hm : c ≤ maxLen) (hs : cur.size = c * k) (ht : cur.toList.take (rows.length * k) = rows.flatten) (hk : ∀ r ∈ rows, r.length = k) : OR w base e k (some ⟨b, 0, none⟩) c rows :=
  ⟨⟨flatten_len hk, .inr ⟨b, c, cur, rfl, hb, hg, hc, hm, hs, ht⟩⟩, hk⟩
theorem mem_erase {α : Type} {l : List α} {i : Nat} {x : α} (h : x ∈ l.eraseIdx i) : x ∈ l := (List.eraseIdx_sublist l i).subset h
theorem erase_flatten {k : Nat} {rows : List (List Value)} (hk : ∀ r ∈ rows, r.length = k) {i : Nat} (hi : i < rows.length) : (rows.eraseIdx i).flatten = (rows.take i).flatten ++ (rows.drop (i + 1)).flatten := by
  rw [List.eraseIdx_eq_take_drop_succ, List.flatten_append]

/-- 'append(s[:i], s[i+1:]...)' in place. -/
theorem OR.shifted {w : World} {base k b c : Nat} {e : TypeId} {rows : List (List Value)} (h : OR w base e k (some ⟨b, 0, none⟩) c rows) {i : Nat} (hi : i < rows.length) {cur : Array Value} (hg : w.heap[b]? = some (.cells cur e (0, 0))) :
    OR (w.setRow b (cur.toList.take (i * k) ++ (rows.drop (i + 1)).flatten ++ cur.toList.drop (i * k + (rows.drop (i + 1)).flatten.length)).toArray) base e k (some ⟨b, 0, none⟩) c (rows.eraseIdx i) := by
  obtain ⟨cur', hg', hb, hc, hm, hs, ht⟩ := h.cur
  rw [hg] at hg'
  injection hg' with hg'
  injection hg' with hg'
  subst hg'
  have hdl : (rows.drop (i + 1)).flatten.length = (rows.length - (i + 1)) * k := by rw [flatten_len (fun r hr => h.2 r (List.mem_of_mem_drop hr)), List.length_drop]
  have hel : (rows.eraseIdx i).length = rows.length - 1 := by rw [List.length_eraseIdx, if_pos hi]
  have hmul : i * k + (rows.length - (i + 1)) * k = (rows.length - 1) * k := by rw [← Nat.add_mul]; congr 1; omega
  have hle : (rows.length - 1) * k ≤ c * k := Nat.mul_le_mul_right _ (by omega)
  have hcl : cur.toList.length = c * k := by simpa using hs
  have hti : cur.toList.take (i * k) = (rows.take i).flatten := by
    rw [← flatten_take h.2, ← ht, List.take_take]
    congr 1
    have := Nat.mul_le_mul_right k (Nat.le_of_lt hi)
    omega
  refine OR.of_cur (setRow_heap w b cur _ e (0, 0) hg) hb (by omega) hm ?_ ?_ (fun r hr => h.2 r (mem_erase hr))
  · have hik : i * k ≤ c * k := Nat.mul_le_mul_right _ (by omega)
    simp only [List.size_toArray, List.length_append, List.length_take, List.length_drop, hcl, hdl]
    omega
  · rw [hel, erase_flatten h.2 hi, ← hti, ← hmul, ← hdl, List.append_assoc, List.take_append]
    have hik : (cur.toList.take (i * k)).length = i * k := by rw [List.length_take, hcl]; have : i * k ≤ c * k := Nat.mul_le_mul_right _ (by omega); omega
    rw [List.take_of_length_le (by omega), hik, Nat.add_sub_cancel_left, List.take_append, List.take_of_length_le (Nat.le_refl _), Nat.sub_self, List.take_zero, List.append_nil]

/-- What lies behind the row may be written. -/
theorem OR.behind {w : World} {base k b c : Nat} {e : TypeId} {rows : List (List Value)} (h : OR w base e k (some ⟨b, 0, none⟩) c rows) {cur : Array Value} (hg : w.heap[b]? = some (.cells cur e (0, 0))) (zs : List Value) (hz : rows.length * k + zs.length ≤ c * k) :
    OR (w.setRow b (cur.toList.take (rows.length * k) ++ zs ++ cur.toList.drop (rows.length * k + zs.length)).toArray) base e k (some ⟨b, 0, none⟩) c rows := by
  obtain ⟨cur', hg', hb, hc, hm, hs, ht⟩ := h.cur
  rw [hg] at hg'
  injection hg' with hg'
  injection hg' with hg'
  subst hg'
  have hcl : cur.toList.length = c * k := by simpa using hs
  refine OR.of_cur (setRow_heap w b cur _ e (0, 0) hg) hb hc hm ?_ ?_ h.2
  · simp only [List.size_toArray, List.length_append, List.length_take, List.length_drop, hcl]
    omega
  · have hik : (cur.toList.take (rows.length * k)).length = rows.length * k := by rw [List.length_take, hcl]; omega
    rw [List.append_assoc, List.take_append, List.take_of_length_le (by omega), hik, Nat.sub_self, List.take_zero, List.append_nil, ht]

/-- 'append' within the room, onto a row at the head of its block. -/
theorem op_append_room {P : Program} (w : World) {o : Oper} {a : Act} {K : Act → World → Prop} {Q : Exit → Act → World → Prop} (s x : Operand) (t e : TypeId) {i : TypeInfo} {k : Nat}
    (ho : o.op = .call { callee := .builtin .append, args := #[s, x], argTypes := #[t, t] }) (ht : P.underlying t = some (.slice e)) (hi : P.info? e = some i) (hz1 : i.size = k)
    (b n cap : Nat) (cur : Array Value) (hg : w.heap[b]? = some (.cells cur e (0, 0))) (X : Addr) (m c : Nat) (news : List Value) (hs : a.eval s = .slice (some ⟨b, 0, none⟩) n cap) (hx : a.eval x = .slice (some X) m c)
    (hl : news.length = m * k) (hnews : ∀ j u, news[j]? = some u → w.cell? (X.add j) = some u) (h1 : ∀ u ∈ news, u.oneCell' = true) (hroom : n + m ≤ cap) (hfit : n * k + news.length ≤ cur.size)
    (h : K (a.put o.dst (.slice (some ⟨b, 0, none⟩) (n + m) cap)) (w.setRow b (cur.toList.take (n * k) ++ news ++ cur.toList.drop (n * k + news.length)).toArray)) : o.wp P a w K Q := by
  subst hz1
  have hr := run_append_room (P := P) w t o.type e i ht hi b n cap cur hg X m c news hl hnews h1 hroom hfit
  unfold Oper.wp execOp
  simp only [ho, resolve, invoke, builtin, Sem.run_bind, Sem.run_pure, Result.andThen_ok, List.map_toArray, List.map_cons, List.map_nil, hs, hx, hr]
  exact h

/-- 'clear' of one struct. -/
theorem op_clear1 {P : Program} (w : World) {o : Oper} {a : Act} {K : Act → World → Prop} {Q : Exit → Act → World → Prop} (x : Operand) (t e : TypeId) {z : Value} {k : Nat}
    (ho : o.op = .call { callee := .builtin .clear, args := #[x], argTypes := #[t] }) (ht : P.underlying t = some (.slice e)) (hz : ∀ w, (zeroValue e).run P w = .ok z w) (hzs : z.cells.size = k) (k0 : 0 < k) (hz1 : ∀ v ∈ z.cells.toList, v.oneCell' = true)
    (b off c : Nat) (cur : Array Value) (hx : a.eval x = .slice (some ⟨b, off, none⟩) 1 c) (hg : w.heap[b]? = some (.cells cur e (0, 0))) (hfit : off + k ≤ cur.size)
    (h : ∀ zs : List Value, zs.length = k → K (a.put o.dst (.tuple #[])) (w.setRow b (cur.toList.take off ++ zs ++ cur.toList.drop (off + zs.length)).toArray)) : o.wp P a w K Q := by
  have hzl : (Builtin.zeroCells z.cells 1).toList.length = k := by simp [Builtin.zeroCells, hzs]
  have hst := run_storeCells_at P b off e (Builtin.zeroCells z.cells 1).toList 0 cur w hg (by rw [hzl]; omega) (fun v hv => by
    simp only [Builtin.zeroCells, Array.toList_map, List.mem_map, Array.toList_range, List.mem_range] at hv
    obtain ⟨i, hi, rfl⟩ := hv
    refine hz1 _ ?_
    have hlt : i % z.cells.size < z.cells.size := Nat.mod_lt _ (by omega)
    rw [getElem!_pos z.cells _ hlt]
    exact Array.getElem_mem_toList hlt)
  simp only [Nat.add_zero] at hst
  have hrun : (Builtin.clear_ #[t] o.type #[.slice (some ⟨b, off, none⟩) 1 c]).run P w = .ok (.tuple #[]) (w.setRow b (cur.toList.take off ++ (Builtin.zeroCells z.cells 1).toList ++ cur.toList.drop (off + (Builtin.zeroCells z.cells 1).toList.length)).toArray) := by
    simp only [Builtin.clear_, Sem.run_bind, run_underlying ht, hz, Result.andThen_ok, hst, Sem.run_pure]
    simp [run_underlying ht, hz, hst]
  unfold Oper.wp execOp
  simp only [ho, resolve, invoke, builtin, Sem.run_bind, Sem.run_pure, Result.andThen_ok, List.map_toArray, List.map_cons, List.map_nil, hx, hrun]
  exact h _ hzl

/-- 'clear' of one struct. -/
theorem run_clear1 {P : Program} (w : World) (t e ty : TypeId) {z : Value} {k : Nat} (ht : P.underlying t = some (.slice e)) (hz : ∀ w, (zeroValue e).run P w = .ok z w) (hzs : z.cells.size = k) (k0 : 0 < k) (hz1 : ∀ v ∈ z.cells.toList, v.oneCell' = true)
    (b off c : Nat) (cur : Array Value) (hg : w.heap[b]? = some (.cells cur e (0, 0))) (hfit : off + k ≤ cur.size) :
    ∃ zs : List Value, zs.length = k ∧ (Builtin.clear_ #[t] ty #[.slice (some ⟨b, off, none⟩) 1 c]).run P w = .ok (.tuple #[]) (w.setRow b (cur.toList.take off ++ zs ++ cur.toList.drop (off + zs.length)).toArray) := by
  have hzl : (Builtin.zeroCells z.cells 1).toList.length = k := by simp [Builtin.zeroCells, hzs]
  have hst := run_storeCells_at P b off e (Builtin.zeroCells z.cells 1).toList 0 cur w hg (by rw [hzl]; omega) (fun v hv => by
    simp only [Builtin.zeroCells, Array.toList_map, List.mem_map, Array.toList_range, List.mem_range] at hv
    obtain ⟨i, hi, rfl⟩ := hv
    refine hz1 _ ?_
    have hlt : i % z.cells.size < z.cells.size := Nat.mod_lt _ (by omega)
    rw [getElem!_pos z.cells _ hlt]
    exact Array.getElem_mem_toList hlt)
  simp only [Nat.add_zero] at hst
  refine ⟨_, hzl, ?_⟩
  simp [Builtin.clear_, run_underlying ht, hz, hst]

theorem letter_zero (w : World) : (zeroValue 59).run Try.prog w = .ok (.agg #[.int .i64 0, .int .i64 0, .slice none 0 0]) w := by
  have h := Try.zeroValue59 (w := w)
  exact h

/-- One struct struck from a row. -/
def DelE (b c n : Nat) (rows : List (List Value)) (w : World) (e : Ending) (w' : World) : Prop :=
  ∃ n' : Nat, n = n' + 1 ∧ e = .returned (.slice (some ⟨b, 0, none⟩) n' c) ∧ OR w' 0 59 3 (some ⟨b, 0, none⟩) c rows ∧ w.grownBy w' (some b)

theorem gb_setRow {w : World} (b : Nat) (cs : Array Value) : w.grownBy (w.setRow b cs) (some b) := ⟨rfl, rfl, rfl, by simp, fun i hi hne => Go.setRow_other w b i cs (fun e => hne (by rw [e]))⟩

set_option maxRecDepth 20000 in
set_option maxHeartbeats 2000000 in
theorem delLetter {b c : Nat} {rows : List (List Value)} (i : Nat) (w : World) (h : OR w 0 59 3 (some ⟨b, 0, none⟩) c rows) (hi : i < rows.length) (hn : rows.length ≤ 4096) (hone : ∀ u ∈ rows.flatten, u.oneCell' = true) :
    Calls Try.prog 25 #[.slice (some ⟨b, 0, none⟩) rows.length c, .int .i64 (i : Int), .int .i64 ((i : Int) + 1)] w (DelE b c rows.length (rows.eraseIdx i) w) := by
  obtain ⟨cur, hg, _, hc, hm, hs, _⟩ := h.cur
  unfold maxLen at hm
  have hic : i < c := by omega
  obtain ⟨n', hn'⟩ : ∃ n', rows.length = n' + 1 := ⟨rows.length - 1, by omega⟩
  have HN := Lib.hid hn'
  have hn1 : n' + 1 ≤ rows.length := by omega
  have hn2 : rows.length ≤ n' + 1 := by omega
  clear hn'
  have hne : ((i : Int) == (i : Int) + 1) = false := by simp; omega
  have H := Lib.hid h
  have HG := Lib.hid hg
  have HS := Lib.hid hs
  clear h hg hs
  go_enter Try.func25, Try.ntmps25
  go_wp2_with fail
  by_cases hj : i + 1 < c
  · skip
    refine wp_region_planE_gen (by kernel_rfl) [(0, none), (1, none), (2, none), (3, none), (4, none), (5, none), (6, some [2, 5]), (7, none)] (by kernel_rfl) (by kernel_rfl) (by decide) ?_
    intro wq hwq
    have hgq : wq.heap[b]? = some (.cells cur 59 (0, 0)) := by rw [hwq]; exact HG.out
    have Hq : Hid (OR wq 0 59 3 (some ⟨b, 0, none⟩) c rows) := Lib.hid (by rw [hwq]; exact H.out.of_block fun _ _ => rfl)
    have hbq : w.grownBy wq (some b) := by rw [hwq]; exact gb_below (Below.refl _ _).drew
    clear hwq H HG
    iterate 6 (refine planE_pure (v := ?_) rfl (by rfl) (fun w' => ?_) ?_; rotate_left; (focus (simp only [List.getElem_toArray, List.getElem_cons_succ, List.getElem_cons_zero]; go_simp; first | with_reducible rfl | (simp (disch := omega) only [if_pos, if_neg, Result.andThen_ok]; try with_reducible rfl) | skip)); try simp only [List.getElem_toArray, List.getElem_cons_succ, List.getElem_cons_zero, Act.put, List.setIfInBounds_toArray, List.set_cons_zero, List.set_cons_succ])
    refine planE_eff rfl (by rfl) (fun K hK => ?_)
    obtain ⟨i0, hi0, hz0, hz1, hz2⟩ := info_parts letter_info
    refine op_append_room wq (.tmp 22) (.tmp 25) 52 59 (by rfl) Try.underlying52 hi0 hz1 b i c cur hgq ⟨b, (i + 1) * 3, none⟩ (rows.length - (i + 1)) (c - (i + 1)) (rows.drop (i + 1)).flatten (by rfl) (by rfl) (by rw [flatten_len (fun r hr => Hq.out.2 r (List.mem_of_mem_drop hr)), List.length_drop]) (fun j u hu => by
        have hr := flatten_drop (k := 3) Hq.out.2 (i + 1)
        rw [← hr, List.getElem?_drop] at hu
        have := World.ownsRow.cellAt Hq.out.1 ((i + 1) * 3 + j) (by have := (List.getElem?_eq_some_iff.1 hu).1; rw [flatten_len Hq.out.2] at this; exact this)
        rw [hu] at this
        simpa [Addr.add_lit] using this) (fun u hu => hone u (List.mem_flatten.2 (by obtain ⟨r, hr, hur⟩ := List.mem_flatten.1 hu; exact ⟨r, List.mem_of_mem_drop hr, hur⟩))) (by omega) (by rw [flatten_len (fun r hr => Hq.out.2 r (List.mem_of_mem_drop hr)), List.length_drop, HS.out]; omega) ?_
    have h2 := Hq.out.shifted hi hgq
    have hb2 := gb_trans hbq (gb_setRow b (cur.toList.take (i * 3) ++ (rows.drop (i + 1)).flatten ++ cur.toList.drop (i * 3 + (rows.drop (i + 1)).flatten.length)).toArray)
    rw [show i + (rows.length - (i + 1)) = n' from by omega]
    clear hgq Hq hbq
    refine hK _ _ (by simp [owed, left] <;> (and_intros <;> first | trivial | assumption)) ?_
    clear hK K
    try simp only [List.getElem_toArray, List.getElem_cons_succ, List.getElem_cons_zero, Act.put, List.setIfInBounds_toArray, List.set_cons_zero, List.set_cons_succ]
    iterate 1 (refine planE_pure (v := ?_) rfl (by rfl) (fun w' => ?_) ?_; rotate_left; (focus (simp only [List.getElem_toArray, List.getElem_cons_succ, List.getElem_cons_zero]; go_simp; first | with_reducible rfl | (simp (disch := omega) only [if_pos, if_neg, Result.andThen_ok]; try with_reducible rfl) | skip)); try simp only [List.getElem_toArray, List.getElem_cons_succ, List.getElem_cons_zero, Act.put, List.setIfInBounds_toArray, List.set_cons_zero, List.set_cons_succ])
    refine planE_end ?_
    have HB2 := Lib.hid hb2
    clear hb2
    have H2 := Lib.hid h2
    clear h2
    generalize wq.setRow b (cur.toList.take (i * 3) ++ (rows.drop (i + 1)).flatten ++ cur.toList.drop (i * 3 + (rows.drop (i + 1)).flatten.length)).toArray = w2 at *
    have hnc : n' < c := by omega
    have hn3 : n' ≤ rows.length := by omega
    obtain ⟨cur2, hg2, _, _, _, hs2, _⟩ := H2.out.cur
    have hel : (rows.eraseIdx i).length = n' := by rw [List.length_eraseIdx, if_pos hi]; omega
    obtain ⟨zs, hzs, hcl⟩ := run_clear1 (P := Try.prog) (k := 3) w2 52 59 0 Try.underlying52 letter_zero rfl (by decide) (by simp [Value.cells, Value.oneCell']) b (n' * 3) (c - n') cur2 hg2 (by rw [hs2]; omega)
    rw [show (1 : Nat) = rows.length - n' from by omega] at hcl
    have h3 := H2.out.behind hg2 zs (by rw [hel, hzs]; omega)
    rw [hel] at h3
    have HB3 := Lib.hid (gb_trans HB2.out (gb_setRow b (cur2.toList.take (n' * 3) ++ zs ++ cur2.toList.drop (n' * 3 + zs.length)).toArray))
    have H3 := Lib.hid h3
    clear hg2 hs2 hel hzs h3
    generalize w2.setRow b (cur2.toList.take (n' * 3) ++ zs ++ cur2.toList.drop (n' * 3 + zs.length)).toArray = w3 at *
    go_wp2_with fail
    go_ret
    exact ⟨n', HN.out, rfl, H3.out, HB3.out⟩
  · skip
    refine wp_region_planE_gen (by kernel_rfl) [(0, none), (1, none), (2, none), (3, none), (4, none), (5, none), (6, some [2, 5]), (7, none)] (by kernel_rfl) (by kernel_rfl) (by decide) ?_
    intro wq hwq
    have hgq : wq.heap[b]? = some (.cells cur 59 (0, 0)) := by rw [hwq]; exact HG.out
    have Hq : Hid (OR wq 0 59 3 (some ⟨b, 0, none⟩) c rows) := Lib.hid (by rw [hwq]; exact H.out.of_block fun _ _ => rfl)
    have hbq : w.grownBy wq (some b) := by rw [hwq]; exact gb_below (Below.refl _ _).drew
    clear hwq H HG
    iterate 6 (refine planE_pure (v := ?_) rfl (by rfl) (fun w' => ?_) ?_; rotate_left; (focus (simp only [List.getElem_toArray, List.getElem_cons_succ, List.getElem_cons_zero]; go_simp; first | with_reducible rfl | (simp (disch := omega) only [if_pos, if_neg, Result.andThen_ok]; try with_reducible rfl) | skip)); try simp only [List.getElem_toArray, List.getElem_cons_succ, List.getElem_cons_zero, Act.put, List.setIfInBounds_toArray, List.set_cons_zero, List.set_cons_succ])
    refine planE_eff rfl (by rfl) (fun K hK => ?_)
    obtain ⟨i0, hi0, hz0, hz1, hz2⟩ := info_parts letter_info
    refine op_append_room wq (.tmp 22) (.tmp 25) 52 59 (by rfl) Try.underlying52 hi0 hz1 b i c cur hgq ⟨b, 0, none⟩ (rows.length - (i + 1)) (c - (i + 1)) (rows.drop (i + 1)).flatten (by rfl) (by rfl) (by rw [flatten_len (fun r hr => Hq.out.2 r (List.mem_of_mem_drop hr)), List.length_drop]) (fun j u hu => by
        rw [List.drop_of_length_le (by omega)] at hu
        simp at hu) (fun u hu => hone u (List.mem_flatten.2 (by obtain ⟨r, hr, hur⟩ := List.mem_flatten.1 hu; exact ⟨r, List.mem_of_mem_drop hr, hur⟩))) (by omega) (by rw [flatten_len (fun r hr => Hq.out.2 r (List.mem_of_mem_drop hr)), List.length_drop, HS.out]; omega) ?_
    have h2 := Hq.out.shifted hi hgq
    have hb2 := gb_trans hbq (gb_setRow b (cur.toList.take (i * 3) ++ (rows.drop (i + 1)).flatten ++ cur.toList.drop (i * 3 + (rows.drop (i + 1)).flatten.length)).toArray)
    rw [show i + (rows.length - (i + 1)) = n' from by omega]
    clear hgq Hq hbq
    refine hK _ _ (by simp [owed, left] <;> (and_intros <;> first | trivial | assumption)) ?_
    clear hK K
    try simp only [List.getElem_toArray, List.getElem_cons_succ, List.getElem_cons_zero, Act.put, List.setIfInBounds_toArray, List.set_cons_zero, List.set_cons_succ]
    iterate 1 (refine planE_pure (v := ?_) rfl (by rfl) (fun w' => ?_) ?_; rotate_left; (focus (simp only [List.getElem_toArray, List.getElem_cons_succ, List.getElem_cons_zero]; go_simp; first | with_reducible rfl | (simp (disch := omega) only [if_pos, if_neg, Result.andThen_ok]; try with_reducible rfl) | skip)); try simp only [List.getElem_toArray, List.getElem_cons_succ, List.getElem_cons_zero, Act.put, List.setIfInBounds_toArray, List.set_cons_zero, List.set_cons_succ])
    refine planE_end ?_
    have HB2 := Lib.hid hb2
    clear hb2
    have H2 := Lib.hid h2
    clear h2
    generalize wq.setRow b (cur.toList.take (i * 3) ++ (rows.drop (i + 1)).flatten ++ cur.toList.drop (i * 3 + (rows.drop (i + 1)).flatten.length)).toArray = w2 at *
    have hnc : n' < c := by omega
    have hn3 : n' ≤ rows.length := by omega
    obtain ⟨cur2, hg2, _, _, _, hs2, _⟩ := H2.out.cur
    have hel : (rows.eraseIdx i).length = n' := by rw [List.length_eraseIdx, if_pos hi]; omega
    obtain ⟨zs, hzs, hcl⟩ := run_clear1 (P := Try.prog) (k := 3) w2 52 59 0 Try.underlying52 letter_zero rfl (by decide) (by simp [Value.cells, Value.oneCell']) b (n' * 3) (c - n') cur2 hg2 (by rw [hs2]; omega)
    rw [show (1 : Nat) = rows.length - n' from by omega] at hcl
    have h3 := H2.out.behind hg2 zs (by rw [hel, hzs]; omega)
    rw [hel] at h3
    have HB3 := Lib.hid (gb_trans HB2.out (gb_setRow b (cur2.toList.take (n' * 3) ++ zs ++ cur2.toList.drop (n' * 3 + zs.length)).toArray))
    have H3 := Lib.hid h3
    clear hg2 hs2 hel hzs h3
    generalize w2.setRow b (cur2.toList.take (n' * 3) ++ zs ++ cur2.toList.drop (n' * 3 + zs.length)).toArray = w3 at *
    go_wp2_with fail
    go_ret
    exact ⟨n', HN.out, rfl, H3.out, HB3.out⟩
end Go.Proofs.Ytihmnkkhccihpaa
