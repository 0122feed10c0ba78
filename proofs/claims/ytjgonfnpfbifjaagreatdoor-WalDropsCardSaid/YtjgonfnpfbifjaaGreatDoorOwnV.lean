/- Rows of the call's own across what a call changes; parts of them; blocks of unlike kinds. -/
import Derived.Test.YtjgonfnpfbifjaaGreatDoorDskM
import Derived.Deep.AppendLies
namespace Go.Proofs.YtjgonfnpfbifjaaGreatDoor
open Go.RowKit

theorem OV.mods {S : Nat → Prop} {w a : World} {base c : Nat} {e : TypeId} {A : Option Addr} {xs : List Value} (h : OV w base e A c xs) (m : Mods S w a) (hn : ∀ k, A.map (·.block) = some k → ¬ S k) : OV a base e A c xs := by
  refine ⟨h.1, ?_⟩
  rcases h.2 with h2 | ⟨g, cap, cur, hv, hg, hh, r⟩
  · exact .inl h2
  · injection hv with hv1 hv2 hv3
    subst hv1 hv3
    exact .inr ⟨g, _, cur, rfl, hg, by rw [m.block g (lt_of_block hh) (hn g rfl)]; exact hh, r⟩
theorem OV.ne_blk {w : World} {B g c : Nat} {e T : TypeId} {cs : Array Value} {A : Option Addr} {xs : List Value} (h : OV w B e A c xs) (hb : Blk w g T cs) (hT : T ≠ e) : A.map (·.block) ≠ some g := by
  rcases h.2 with ⟨hv, _⟩ | ⟨g', cap, cur, hv, _, hg, _⟩
  · injection hv with h1 _ _; subst h1; simp
  · injection hv with h1 _ _; subst h1
    intro e'
    have e' : g' = g := by simpa using e'
    subst e'
    have hb' : w.heap[g']? = _ := hb
    rw [hg] at hb'
    injection hb' with hb'
    injection hb' with _ ht
    exact hT ht.symm
theorem OB.ne_blk {w : World} {B g c : Nat} {T : TypeId} {cs : Array Value} {A : Option Addr} {l : List UInt8} (h : OB w B A c l) (hb : Blk w g T cs) (hT : T ≠ 5) : A.map (·.block) ≠ some g := by
  rcases h.2 with ⟨hv, _⟩ | ⟨g', cap, cur, hv, _, hg, _⟩
  · injection hv with h1 _ _; subst h1; simp
  · injection hv with h1 _ _; subst h1
    intro e'
    have e' : g' = g := by simpa using e'
    subst e'
    have hb' : w.heap[g']? = _ := hb
    rw [hg] at hb'
    injection hb' with hb'
    injection hb' with _ ht
    exact hT ht.symm
theorem OV.blk_lt {w : World} {B c : Nat} {e : TypeId} {A : Option Addr} {xs : List Value} (h : OV w B e A c xs) : ∀ k, A.map (·.block) = some k → B ≤ k ∧ k < w.heap.size := fun k hk => h.own_lt k (by cases A <;> simp_all [Value.ownBlock])
theorem OB.blk_in {w : World} {B c : Nat} {A : Option Addr} {l : List UInt8} (h : OB w B A c l) : ∀ k, A.map (·.block) = some k → B ≤ k ∧ k < w.heap.size := fun k hk => h.own_lt k (by cases A <;> simp_all [Value.ownBlock])
theorem OV.take {w : World} {B c : Nat} {e : TypeId} {A : Option Addr} {xs : List Value} (h : OV w B e A c xs) (n : Nat) : OV w B e A c (xs.take n) := by
  have hl : (xs.take n).length ≤ xs.length := by rw [List.length_take]; omega
  refine ⟨by simp, ?_⟩
  rcases h.2 with ⟨hv, h0⟩ | ⟨g, cap, cur, hv, hg, hh, r1, r2, r3, r4⟩
  · injection hv with h1 h2 h3
    subst h1 h3
    have : xs.take n = [] := List.eq_nil_of_length_eq_zero (by omega)
    rw [this]
    exact .inl ⟨rfl, rfl⟩
  · injection hv with h1 h2 h3
    subst h1 h3
    refine .inr ⟨g, _, cur, rfl, hg, hh, by omega, r2, r3, ?_⟩
    rw [Nat.mul_one] at r4 ⊢
    have e5 : xs.take n = cur.toList.take (min n xs.length) := by
      conv => lhs; rw [← r4]
      rw [List.take_take]
    rw [List.length_take, e5]
theorem OV.at_none {w : World} {B c : Nat} {e : TypeId} {xs : List Value} (h : OV w B e none c xs) : xs = [] ∧ c = 0 := by
  rcases h.2 with ⟨hv, h0⟩ | ⟨g, cap, cur, hv, _⟩
  · injection hv with h1 h2 h3
    exact ⟨List.eq_nil_of_length_eq_zero h0, h3⟩
  · injection hv with h1 h2 h3
    cases h1
theorem OV.cells {w : World} {B c : Nat} {e : TypeId} {A : Option Addr} {xs : List Value} (h : OV w B e A c xs) : A = none ∨ ∃ g cs, A = some ⟨g, 0, none⟩ ∧ Blk w g e cs := by
  rcases h.2 with ⟨hv, h0⟩ | ⟨g, cap, cur, hv, _, hg, _⟩
  · injection hv with h1 h2 h3; exact .inl h1
  · injection hv with h1 h2 h3; exact .inr ⟨g, cur, h1, hg⟩
theorem OB.cells {w : World} {B c : Nat} {A : Option Addr} {l : List UInt8} (h : OB w B A c l) : A = none ∨ ∃ g cs, A = some ⟨g, 0, none⟩ ∧ Blk w g 5 cs := by
  rcases h.2 with ⟨hv, h0⟩ | ⟨g, cap, cur, hv, _, hg, _⟩
  · injection hv with h1 h2 h3; exact .inl h1
  · injection hv with h1 h2 h3; exact .inr ⟨g, cur, h1, hg⟩
theorem Blk.ne {w : World} {g k : Nat} {T U : TypeId} {cs ds : Array Value} (h : Blk w g T cs) (h' : Blk w k U ds) (hT : T ≠ U) : g ≠ k := by
  rintro rfl
  have h1 : w.heap[g]? = _ := h
  have h2 : w.heap[g]? = _ := h'
  rw [h1] at h2
  injection h2 with h2
  injection h2 with _ h2
  exact hT h2
theorem OV.lit1 (w : World) {base : Nat} (hb : base ≤ w.heap.size) (v : Value) (T : TypeId) : OV (w.alloc (.cells #[v] T)) base T (some ⟨w.heap.size, 0, none⟩) 1 [v] :=
  World.ownsRow_lit w #[v] 1 hb (by unfold maxLen; omega) rfl
theorem OV.cap_eq {w : World} {B B' c c' : Nat} {e e' : TypeId} {A : Addr} {xs ys : List Value} (h : OV w B e (some A) c xs) (k : OV w B' e' (some A) c' ys) : c = c' := by
  rcases h.2 with ⟨hv, _⟩ | ⟨g, cap, cur, hv, _, hh, _, _, r, _⟩
  · injection hv with h1 _ _; cases h1
  · rcases k.2 with ⟨kv, _⟩ | ⟨g', cap', cur', kv, _, kh, _, _, r', _⟩
    · injection kv with h1 _ _; cases h1
    · injection hv with h1 _ h3
      injection kv with k1 _ k3
      rw [h1] at k1
      injection k1 with k1
      injection k1 with k1 _ _
      subst k1
      rw [hh] at kh
      injection kh with kh
      injection kh with kh _ _
      subst kh h3 k3
      omega
/-- 'append(s, x...)', elements of one cell each: the row that it was appended to still holds what it held. -/
theorem run_append_keep {P : Program} (w : World) (t ty e : TypeId) {i : TypeInfo} {z : Value} (ht : P.underlying t = some (.slice e)) (hi : P.info? e = some i) (hz : i.zero = some z) (hz1 : i.size = 1) (hzs : z.cells.size = 1)
    (base : Nat) (A : Option Addr) (c : Nat) (xs : List Value) (hown : OV w base e A c xs) (ad : Addr) (m d : Nat) (news : List Value) (hl : news.length = m) (hm : 0 < m) (hnews : ∀ j u, news[j]? = some u → w.cell? (ad.add j) = some u) (h1 : ∀ u ∈ news, u.oneCell' = true)
    (h63 : xs.length + m ≤ 140737488355328) (hbytes : (xs.length + m) * i.bytes ≤ 140737488355328) (hbase : base ≤ w.heap.size) :
    ∃ (g c' : Nat) (w' : World), (Builtin.append_ #[t, t] ty #[.slice A xs.length c, .slice (some ad) m d]).run P w = .ok (.slice (some ⟨g, 0, none⟩) (xs ++ news).length c') w' ∧ OV w' base e (some ⟨g, 0, none⟩) c' (xs ++ news) ∧ OV w' base e A c xs ∧
      w.grownBy w' (A.map (·.block)) ∧ (A.map (·.block) = some g ∨ g = w.heap.size) := by
  have hlm : (xs ++ news).length = xs.length + m := by rw [List.length_append, hl]
  obtain ⟨v', w', hr, h2, h3, _, h5⟩ := run_append_own_at (P := P) w base t ty e i z 1 i.bytes ht hi hz hz1 rfl hzs (by decide) (.slice A xs.length c) xs.length xs hown ad m d news (by omega) hnews h1 (by unfold maxLen; omega) hbytes hbase
  obtain ⟨g, c', rfl, _, _⟩ := h2.form (by omega)
  have ho : Value.ownBlock (.slice A xs.length c) = A.map (·.block) := by cases A <;> rfl
  rw [ho] at h3 h5
  refine ⟨g, c', w', by rw [hlm]; exact hr, by unfold OV; rw [hlm]; exact h2, ?_, h3, ?_⟩
  · rcases hown.2 with ⟨hv, h0⟩ | ⟨b, cap, cur, hv, hbg, hg, hnc, hcm, hcs, htake⟩
    · injection hv with e1 _ e3
      subst e1 e3
      have : xs = [] := List.eq_nil_of_length_eq_zero h0
      subst this
      exact World.ownsRow_nil _ _ _ _
    · injection hv with e1 _ e3
      subst e1 e3
      by_cases hroom : xs.length + m ≤ c
      · have hfit : xs.length * i.size + news.length ≤ cur.size := by rw [hz1, hcs]; omega
        have hr' := run_append_room (P := P) w t ty e i ht hi b xs.length c cur hg ad m d news (by rw [hz1]; omega) hnews h1 hroom hfit
        rw [hr] at hr'
        injection hr' with _ hw
        subst hw
        refine ⟨hown.1, .inr ⟨b, c, _, rfl, hbg, setRow_heap w b cur _ e _ hg, hnc, hcm, ?_, ?_⟩⟩
        · simp only [List.size_toArray, List.length_append, List.length_take, List.length_drop, Array.length_toList]
          rw [hz1] at hfit ⊢
          omega
        · rw [hz1]
          rw [Nat.mul_one] at htake ⊢
          have e4 : (cur.toList.take xs.length).length = xs.length := by rw [htake]
          rw [List.append_assoc, List.take_append_of_le_length (by omega), List.take_take, Nat.min_self, htake]
      · have holds : ∀ j u, xs[j]? = some u → w.cell? ((⟨b, 0, none⟩ : Addr).add j) = some u := World.ownsRow.cells hown (g := b) rfl
        have hr' := run_append_grow (P := P) w t ty e i z ht hi hz ⟨b, 0, none⟩ xs.length c xs (by rw [hz1]; omega) holds ad m d news (by rw [hz1]; omega) hnews (by omega) (by omega) (growslice_fits (by omega) hbytes)
        rw [hr] at hr'
        injection hr' with _ hw
        subst hw
        refine ⟨hown.1, .inr ⟨b, c, cur, rfl, hbg, ?_, hnc, hcm, hcs, htake⟩⟩
        have hbl : b < w.drew.heap.size := lt_of_block hg
        exact (heap_alloc_old w.drew _ hbl).trans hg
  · rcases h5 with h5 | h5
    · exact .inl (by rw [← h5]; rfl)
    · right
      have : g = w.heap.size := by simpa [Value.ownBlock] using h5
      exact this
/-- The same at the operation. -/
theorem op_appendK (w : World) {o : Oper} {a : Act} {N : Act → World → Prop} {Q : Exit → Act → World → Prop} (s x : Operand) (t e : TypeId) {i : TypeInfo} {z : Value} {bytes : Nat}
    (ho : o.op = .call { callee := .builtin .append, args := #[s, x], argTypes := #[t, t] })
    (ht : Tryz.prog.underlying t = some (.slice e)) (hi : Tryz.prog.info? e = some i) (hz0 : i.zero = some z) (hz1 : i.size = 1) (hz2 : i.bytes = bytes) (hzs : z.cells.size = 1)
    (base : Nat) (A : Option Addr) (c d b : Nat) (xs : List Value) (v : Value) (hs : a.eval s = .slice A xs.length c) (hx : a.eval x = .slice (some ⟨b, 0, none⟩) 1 d)
    (hown : OV w base e A c xs) (hv : w.cell? ⟨b, 0, none⟩ = some v) (h1 : v.oneCell' = true) (hlen : (xs.length + 1) * bytes ≤ 140737488355328) (hl2 : xs.length + 1 ≤ 140737488355328) (hbase : base ≤ w.heap.size)
    (h : ∀ (ys : List Value) (n g c' : Nat) (w' : World), Hid (ys = xs ++ [v]) → n = xs.length + 1 → OV w' base e (some ⟨g, 0, none⟩) c' (xs ++ [v]) → OV w' base e A c xs → w.grownBy w' (A.map (·.block)) → (A.map (·.block) = some g ∨ g = w.heap.size) →
      N (a.put o.dst (.slice (some ⟨g, 0, none⟩) n c')) w') : o.wp Tryz.prog a w N Q := by
  subst hz2
  obtain ⟨g, c', w', hr, h2, h3, h4, h5⟩ := run_append_keep (P := Tryz.prog) w t o.type e ht hi hz0 hz1 hzs base A c xs hown ⟨b, 0, none⟩ 1 d [v] rfl (by decide) (fun j u hj => by
    cases j with
    | zero => simp at hj; subst hj; exact hv
    | succ j => simp at hj) (fun u hu => by rw [List.mem_singleton.1 hu]; exact h1) hl2 hlen hbase
  unfold Oper.wp
  rw [List.length_append, List.length_singleton] at hr
  simp only [execOp, ho, resolve, invoke, builtin, Sem.run_bind, Sem.run_pure, Result.andThen_ok, List.map_toArray, List.map_cons, List.map_nil, hs, hx, hr]
  exact h (xs ++ [v]) _ g c' w' (Lib.hid rfl) rfl h2 h3 h4 h5
/-- The same at the walk. -/
theorem wp_appendK (w : World) {ops : Array Oper} {rest : List Oper} {o : Oper} {a : Act} {Q : Exit → Act → World → Prop} (hgd : o.guard = none) (s x : Operand) (t e : TypeId) {i : TypeInfo} {z : Value} {bytes : Nat}
    (ho : o.op = .call { callee := .builtin .append, args := #[s, x], argTypes := #[t, t] })
    (ht : Tryz.prog.underlying t = some (.slice e)) (hi : Tryz.prog.info? e = some i) (hz0 : i.zero = some z) (hz1 : i.size = 1) (hz2 : i.bytes = bytes) (hzs : z.cells.size = 1)
    (base : Nat) (A : Option Addr) (c d b : Nat) (xs : List Value) (v : Value) (hs : a.eval s = .slice A xs.length c) (hx : a.eval x = .slice (some ⟨b, 0, none⟩) 1 d)
    (hown : OV w base e A c xs) (hv : w.cell? ⟨b, 0, none⟩ = some v) (h1 : v.oneCell' = true) (hlen : (xs.length + 1) * bytes ≤ 140737488355328) (hl2 : xs.length + 1 ≤ 140737488355328) (hbase : base ≤ w.heap.size)
    (h : ∀ (ys : List Value) (n g c' : Nat) (w' : World), Hid (ys = xs ++ [v]) → n = xs.length + 1 → OV w' base e (some ⟨g, 0, none⟩) c' (xs ++ [v]) → OV w' base e A c xs → w.grownBy w' (A.map (·.block)) → (A.map (·.block) = some g ∨ g = w.heap.size) →
      wpList Tryz.prog ops Q rest (a.put o.dst (.slice (some ⟨g, 0, none⟩) n c')) w') : wpList Tryz.prog ops Q (o :: rest) a w := by
  exact wpList_plain hgd fun K hK => op_appendK w s x t e ho ht hi hz0 hz1 hz2 hzs base A c d b xs v hs hx hown hv h1 hlen hl2 hbase fun ys n g c' w' k1 k2 k3 k4 k5 k6 => hK _ _ (h ys n g c' w' k1 k2 k3 k4 k5 k6)
end Go.Proofs.YtjgonfnpfbifjaaGreatDoor
