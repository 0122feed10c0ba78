/- A row of structs of the call's own: its beginning; a cell of it stored. -/
import Derived.Test.YtjgonfnpfbifjaaGreatDoorRowS
namespace Go.Proofs.YtjgonfnpfbifjaaGreatDoor
open Go.RowKit

theorem flatten_set {α : Type} {k : Nat} : ∀ {rows : List (List α)}, (∀ r ∈ rows, r.length = k) → ∀ {i : Nat} {r : List α}, rows[i]? = some r → ∀ {j : Nat}, j < k → ∀ v, rows.flatten.set (i * k + j) v = (rows.set i (r.set j v)).flatten
  | [], _, i, r, h, _, _, _ => by simp at h
  | a :: l, hk, 0, r, h, j, hj, v => by
    simp only [List.getElem?_cons_zero, Option.some.injEq] at h
    subst h
    have := hk a (by simp)
    rw [Nat.zero_mul, Nat.zero_add, List.flatten_cons, List.set_cons_zero, List.flatten_cons, List.set_append_left _ _ (by omega)]
  | a :: l, hk, i + 1, r, h, j, hj, v => by
    have ha := hk a (by simp)
    simp only [List.getElem?_cons_succ] at h
    have ih := flatten_set (fun r hr => hk r (List.mem_cons_of_mem _ hr)) h hj v
    rw [List.flatten_cons, List.set_cons_succ, List.flatten_cons, ← ih, List.set_append_right _ _ (by rw [Nat.add_mul]; omega), show (i + 1) * k + j - a.length = i * k + j from by rw [Nat.add_mul]; omega]
section
variable {w : World} {base : Nat} {e : TypeId} {k c : Nat} {A : Option Addr} {rows : List (List Value)}
theorem OR.take (h : OR w base e k A c rows) (n : Nat) : OR w base e k A c (rows.take n) := by
  refine ⟨⟨?_, ?_⟩, fun r hr => h.2 r (List.mem_of_mem_take hr)⟩
  · rw [flatten_len (fun r hr => h.2 r (List.mem_of_mem_take hr))]
  · rcases h.1.2 with ⟨hv, hl⟩ | ⟨g, cap, cur, hv, hb, hg, hn, hm, hs, ht⟩
    · simp only [Value.slice.injEq] at hv
      obtain ⟨rfl, hl, rfl⟩ := hv
      have hr : rows = [] := List.eq_nil_of_length_eq_zero hl
      subst hr
      exact .inl ⟨by simp, by simp⟩
    · simp only [Value.slice.injEq] at hv
      obtain ⟨rfl, _, rfl⟩ := hv
      have hle : (rows.take n).length ≤ rows.length := by simp; omega
      refine .inr ⟨g, c, cur, rfl, hb, hg, by omega, hm, hs, ?_⟩
      rw [← flatten_take h.2, ← ht, List.take_take]
      congr 1
      rw [List.length_take]
      rcases Nat.le_total n rows.length with h1 | h1
      · rw [Nat.min_eq_left h1, Nat.min_eq_left (Nat.mul_le_mul_right _ h1)]
      · rw [Nat.min_eq_right h1, Nat.min_eq_right (Nat.mul_le_mul_right _ h1)]
theorem OR.head' (h : OR w base e k A c rows) (hn : 0 < rows.length) : ∃ b, A = some ⟨b, 0, none⟩ ∧ base ≤ b ∧ b < w.heap.size := by
  rcases h.form with ⟨_, _, rfl⟩ | ⟨g, rfl, hb, hg, _⟩
  · simp at hn
  · exact ⟨g, rfl, hb, hg⟩
theorem OR.stored {b : Nat} (h : OR w base e k (some ⟨b, 0, none⟩) c rows) {i : Nat} {r : List Value} (hi : rows[i]? = some r) {j : Nat} (hj : j < k) (v : Value) :
    OR (w.setCell ⟨b, i * k + j, none⟩ v) base e k (some ⟨b, 0, none⟩) c (rows.set i (r.set j v)) ∧ w.grownBy (w.setCell ⟨b, i * k + j, none⟩ v) (some b) := by
  obtain ⟨h1, h2⟩ := World.ownsRow.stored h.1 (i * k + j) v
  rw [flatten_set h.2 hi hj] at h1
  refine ⟨⟨by rw [List.length_set]; exact h1, fun q hq => ?_⟩, h2⟩
  rcases List.mem_or_eq_of_mem_set hq with hq | hq
  · exact h.2 q hq
  · subst hq
    rw [List.length_set]
    exact h.2 r (List.mem_of_getElem? hi)
theorem OR.free (h : OR w base e k A c rows) {b : Nat} (hA : A = some ⟨b, 0, none⟩) (j : Nat) : w.frozen? ⟨b, j, none⟩ = false := by
  obtain ⟨cs, hc⟩ := h.blk b (by rw [hA]; rfl)
  simp [World.frozen?, hc]
theorem OB.take {l : List UInt8} (h : OB w base A c l) (n : Nat) : OB w base A c (l.take n) := by
  refine ⟨by rw [bcells_length, Nat.mul_one], ?_⟩
  rcases h.2 with ⟨hv, hl⟩ | ⟨g, cap, cur, hv, hb, hg, hn, hm, hs, ht⟩
  · simp only [Value.slice.injEq] at hv
    obtain ⟨rfl, hl, rfl⟩ := hv
    have hr : l = [] := List.eq_nil_of_length_eq_zero hl
    subst hr
    exact .inl ⟨by simp, by simp⟩
  · simp only [Value.slice.injEq] at hv
    obtain ⟨rfl, _, rfl⟩ := hv
    have hle : (l.take n).length ≤ l.length := by simp; omega
    refine .inr ⟨g, c, cur, rfl, hb, hg, by omega, hm, hs, ?_⟩
    have e2 : bcells (l.take n) = (bcells l).take n := by unfold bcells; rw [List.map_take]
    rw [e2, ← ht, List.take_take, Nat.mul_one, Nat.mul_one, List.length_take]
end
end Go.Proofs.YtjgonfnpfbifjaaGreatDoor
