/- A law's argument that is a slice of slices of bytes: of any size that can be. -/
import Derived.Test.YtjgonfnpfbifjaaGreatDoorArgsS
namespace Go.Proofs.YtjgonfnpfbifjaaGreatDoor
open Go.ChangeShapes Go.WideShapes Go.ChangeAt Go.RowKit

set_option maxRecDepth 20000 in
theorem cameBBW {H : Type} {enc : TypeId × Value → H} {W : World} {base : Nat} {v : Value} {d : DataW H} {p : List MemPlace}
    (hv : Value.okWide Tryz.prog W .any base 22 v) (h : DataW.Trod enc Tryz.prog W 0 (fun _ => true) true 22 v d p) (hw : (d.weights Tryz.prog 22).all (· ≤ reachBytes) = true) :
    ∃ (A : Option Addr) (c : Nat) (L : List (Option Addr × Nat × List UInt8)), v = .slice A L.length c ∧ RBB W A L ∧ L.length ≤ c ∧ c ≤ 9223372036854775807 := by
  obtain ⟨A, len, cap, rfl⟩ := okWide_slice Tryz.underlying22 hv
  obtain ⟨fuel, hf⟩ := h
  rcases Go.Deep.open_slice1 Tryz.underlying22 (by kernel_rfl) hf with ⟨hcs, _⟩ | ⟨a, len', cap', m, n, V, D, Pl, hcs, _, hl, hm, hmm, hx, hi⟩
  · simp [Value.cells] at hcs
    obtain ⟨rfl, rfl, rfl⟩ := hcs
    exact ⟨none, 0, [], rfl, ⟨by simpa using RV.nil, by simp⟩, by simp, by omega⟩
  · simp [Value.cells] at hcs
    obtain ⟨rfl, rfl, rfl⟩ := hcs
    have hm' : m = cap := by simpa using hmm
    have hd : d = .slice ((List.range len).map D) ((List.range (m - len)).map fun j => D (len + j)) := by simpa using congrArg Prod.fst hx
    have each : ∀ i, i < len → ∃ t : Option Addr × Nat × List UInt8, W.cell? (a.add i) = some (.slice t.1 t.2.2.length t.2.1) ∧ RB W t.1 t.2.2 ∧ t.2.2.length ≤ 140737488355328 := by
      intro i hlt
      obtain ⟨h1, h2⟩ := hi i (by omega)
      have hwi : ((D i).weights Tryz.prog 33).all (· ≤ reachBytes) = true := weights_slice_elem Tryz.underlying22 (by rw [← hd]; exact hw) hlt
      obtain ⟨fv, hfv, hok⟩ := field_of_trod (k := .bytes) (by kernel_rfl) h2 hwi
      cases fv with
      | bytes A' c' l =>
        obtain ⟨q1, q2, q3, q4⟩ := hok
        exact ⟨(A', c', l), by rw [h1, hfv]; rfl, q1, by show l.length ≤ _; omega⟩
      | int k n => cases hok
      | bool b => cases hok
      | str l => cases hok
    obtain ⟨f, hfun⟩ : ∃ f : Nat → Option Addr × Nat × List UInt8, ∀ i, i < len → W.cell? (a.add i) = some (.slice (f i).1 (f i).2.2.length (f i).2.1) ∧ RB W (f i).1 (f i).2.2 ∧ (f i).2.2.length ≤ 140737488355328 := by
      refine ⟨fun i => if h : i < len then Classical.choose (each i h) else (none, 0, []), fun i h => ?_⟩
      simp only [h, dif_pos]
      exact Classical.choose_spec (each i h)
    refine ⟨some a, cap, (List.range len).map f, by simp, ⟨⟨fun hn => ?_⟩, fun t ht => ?_⟩, by simpa using hl, by unfold maxLen at hm; omega⟩
    · have hn' : 0 < len := by simpa using hn
      have h0 := (hfun 0 hn').1
      obtain ⟨b, off, spot⟩ := a
      have hspot : spot = none := by simpa [Addr.add] using World.cell?_spot h0
      subst hspot
      have hadd : ∀ o j, (⟨b, o, none⟩ : Addr).add j = ⟨b, o + j, none⟩ := by intro o j; unfold Addr.add; split <;> simp_all
      refine ⟨b, off, rfl, World.block_lt_of_cell? W ⟨b, off, none⟩ (u := _) (by simpa [Addr.add] using h0), fun j x hx => ?_⟩
      simp only [List.map_map, List.getElem?_map] at hx
      obtain ⟨i', hi', rfl⟩ := Option.map_eq_some_iff.1 hx
      have hil : j < len := by
        have := (List.getElem?_eq_some_iff.1 hi').1
        simpa using this
      rw [List.getElem?_range hil] at hi'
      injection hi' with hi'
      subst hi'
      have := (hfun j hil).1
      rwa [hadd] at this
    · obtain ⟨i, hi', rfl⟩ := List.mem_map.1 ht
      have := hfun i (by simpa using hi')
      exact ⟨this.2.1, this.2.2⟩
set_option maxRecDepth 20000 in
/-- How many they are at most. -/
theorem cameBBbound {H : Type} {enc : TypeId × Value → H} {W : World} {base : Nat} {v : Value} {d : DataW H} {p : List MemPlace}
    (hv : Value.okWide Tryz.prog W .any base 22 v) (h : DataW.Trod enc Tryz.prog W 0 (fun _ => true) true 22 v d p) (hw : (d.weights Tryz.prog 22).all (· ≤ reachBytes) = true) {A : Option Addr} {n c : Nat} (e : v = .slice A n c) : n * 24 ≤ 140737488351232 := by
  obtain ⟨A', len, cap, rfl⟩ := okWide_slice Tryz.underlying22 hv
  injection e with e1 e2 e3
  subst e1 e2 e3
  obtain ⟨fuel, hf⟩ := h
  rcases Go.Deep.open_slice1 Tryz.underlying22 (by kernel_rfl) hf with ⟨hcs, _⟩ | ⟨a, len', cap', m, n', V, D, Pl, hcs, _, hl, hm, hmm, hx, hi⟩
  · simp [Value.cells] at hcs
    omega
  · simp [Value.cells] at hcs
    obtain ⟨rfl, rfl, rfl⟩ := hcs
    have hd : d = .slice ((List.range len).map D) ((List.range (m - len)).map fun j => D (len + j)) := by simpa using congrArg Prod.fst hx
    rw [hd] at hw
    simp only [DataW.weights, Tryz.underlying22, List.all_cons, Bool.and_eq_true, decide_eq_true_eq, List.length_map, List.length_range] at hw
    have h1 := hw.1
    rw [show Tryz.prog.bytesOf 33 = 24 from by kernel_rfl] at h1
    unfold reachBytes at h1
    omega
end Go.Proofs.YtjgonfnpfbifjaaGreatDoor
