/- The arguments of a law, opened: lists of bytes and of numbers; and how large they are. -/
import Derived.Test.YtjgonfnpfbifjaaGreatDoorMem
import Derived.Test.YtjgonfnpfbifjaaGreatDoorLift
import Derived.Deep.CondSized
import Derived.Deep.Slices
import Derived.JoinedCond
namespace Go.Proofs.YtjgonfnpfbifjaaGreatDoor
open Go.ChangeShapes Go.WideShapes Go.ChangeAt Go.RowKit

/-- Numbers of one kind. -/
def ncells (k : IntKind) (zs : List Int) : List Value := zs.map (Value.int k)
theorem ncells_length (k : IntKind) (zs : List Int) : (ncells k zs).length = zs.length := by simp [ncells]

theorem u64_of_wf {x : Int} (h : (Lit.int .u64 x).wf = true) : 0 ≤ x ∧ x ≤ 18446744073709551615 := by
  simp [Lit.wf, IntKind.min, IntKind.max, IntKind.signed, IntKind.bits] at h
  exact ⟨by omega, by omega⟩
theorem u8_of_wf {x : Int} (h : (Lit.int .u8 x).wf = true) : 0 ≤ x ∧ x ≤ 255 := by
  simp [Lit.wf, IntKind.min, IntKind.max, IntKind.signed, IntKind.bits] at h
  exact ⟨by omega, by omega⟩
theorem u16_of_wf {x : Int} (h : (Lit.int .u16 x).wf = true) : 0 ≤ x ∧ x ≤ 65535 := by
  simp [Lit.wf, IntKind.min, IntKind.max, IntKind.signed, IntKind.bits] at h
  exact ⟨by omega, by omega⟩
theorem u32_of_wf {x : Int} (h : (Lit.int .u32 x).wf = true) : 0 ≤ x ∧ x ≤ 4294967295 := by
  simp [Lit.wf, IntKind.min, IntKind.max, IntKind.signed, IntKind.bits] at h
  exact ⟨by omega, by omega⟩

/-- What is known of a slice of numbers that came in: its reading, and its size in the datum. -/
structure Came {H : Type} (W : World) (k : IntKind) (A : Option Addr) (c : Nat) (zs : List Int) (d : DataW H) : Prop where
  reads : RV W A (ncells k zs)
  wf : ∀ z ∈ zs, (Lit.int k z).wf = true
  cap : zs.length ≤ c
  most : c ≤ 9223372036854775807
  none_ : A = none → c = 0
  datum : (d = .nil ∧ zs = []) ∨ ∃ elems spare, d = .slice elems spare ∧ elems.length = zs.length

theorem came_trod {H : Type} {enc : TypeId × Value → H} {W : World} {t e : TypeId} {k : IntKind} {fuel : Nat} {cs : List Value} {x : DataW H × List MemPlace}
    (ht : Tryz.prog.underlying t = some (.slice e)) (he : Tryz.prog.underlying e = some (.int k)) (hc : Tryz.prog.cellsOf e = 1)
    (hf : DataW.trod enc Tryz.prog W 0 (fun _ => true) true fuel t cs = some x) : ∃ A c zs, cs = [.slice A zs.length c] ∧ Came W k A c zs x.1 := by
  rcases open_ints ht he hc hf with ⟨hcs, hx⟩ | ⟨a, len', cap', zs, hcs, _, hl, hm, hz, hx, hcell, hwz⟩
  · subst hcs
    exact ⟨none, 0, [], rfl, ⟨by simpa [ncells] using RV.nil, by simp, by simp, by omega, fun _ => rfl, .inl ⟨by rw [hx], rfl⟩⟩⟩
  · subst hcs
    have hz' : zs.length = cap' := by simpa using hz
    have hlen : (zs.take len').length = len' := by simp; omega
    refine ⟨some a, cap', zs.take len', by rw [hlen], ⟨⟨fun hn => ?_⟩, fun z hz => hwz z (List.mem_of_mem_take hz), by omega, by unfold maxLen at hm; omega, by simp, .inr ⟨_, _, by rw [hx], by simp [lits]⟩⟩⟩
    rw [ncells_length, hlen] at hn
    have h0 := hcell 0 (by omega)
    obtain ⟨b, off, spot⟩ := a
    have hspot : spot = none := by simpa [Addr.add] using World.cell?_spot h0
    subst hspot
    have hadd : ∀ j, (⟨b, off, none⟩ : Addr).add j = ⟨b, off + j, none⟩ := by intro j; unfold Addr.add; split <;> simp_all
    refine ⟨b, off, rfl, World.block_lt_of_cell? W ⟨b, off, none⟩ (u := .int k (zs.getD 0 0)) (by simpa [Addr.add] using h0), fun j x hx => ?_⟩
    have hj : j < len' := by
      have := (List.getElem?_eq_some_iff.1 hx).1
      simp [ncells] at this; omega
    have hc := hcell j (by omega)
    rw [hadd] at hc
    rw [hc]
    simp only [ncells, List.getElem?_map, List.getElem?_take, if_pos hj] at hx
    rw [List.getElem?_eq_getElem (by omega)] at hx
    simp only [Option.map_some, Option.some.injEq] at hx
    rw [← hx, List.getD_eq_getElem?_getD, List.getElem?_eq_getElem (by omega)]
    rfl

set_option maxRecDepth 20000 in
theorem came {H : Type} {enc : TypeId × Value → H} {W : World} {base : Nat} {t e : TypeId} {k : IntKind} {v : Value} {d : DataW H} {p : List MemPlace}
    (ht : Tryz.prog.underlying t = some (.slice e)) (he : Tryz.prog.underlying e = some (.int k)) (hc : Tryz.prog.cellsOf e = 1)
    (hv : Value.okWide Tryz.prog W .any base t v) (h : DataW.Trod enc Tryz.prog W 0 (fun _ => true) true t v d p) :
    ∃ A c zs, v = .slice A zs.length c ∧ Came W k A c zs d := by
  obtain ⟨A, len, cap, rfl⟩ := okWide_slice ht hv
  obtain ⟨fuel, hf⟩ := h
  obtain ⟨A', c', zs, hcs, hcm⟩ := came_trod ht he hc hf
  simp [Value.cells] at hcs
  obtain ⟨rfl, rfl, rfl⟩ := hcs
  exact ⟨_, _, zs, rfl, hcm⟩

/-- Bytes out of numbers. -/
theorem Came.bytes {H : Type} {W : World} {A : Option Addr} {c : Nat} {zs : List Int} {d : DataW H} (h : Came W .u8 A c zs d) :
    ∃ l : List UInt8, l.length = zs.length ∧ RB W A l := by
  have hwf : ∀ z ∈ zs, 0 ≤ z ∧ z ≤ 255 := by
    intro z hz
    have := h.wf z hz
    simpa [Lit.wf, IntKind.min, IntKind.max, IntKind.signed, IntKind.bits] using this
  refine ⟨zs.map fun z => UInt8.ofNat z.toNat, by simp, RB.of_rv ?_⟩
  have e : bcells (zs.map fun z => UInt8.ofNat z.toNat) = ncells .u8 zs := by
    simp only [bcells, ncells, List.map_map]
    refine List.map_congr_left fun z hz => ?_
    have := hwf z hz
    simp only [Function.comp, UInt8.toNat_ofNat']
    congr 1
    omega
  rw [e]
  exact h.reads

theorem Came.sized {H : Type} {W : World} {k : IntKind} {A : Option Addr} {c : Nat} {zs : List Int} {d : DataW H} (h : Came W k A c zs d) {ts : List TypeId} {ds : List (DataW H)} {j : Nat} {t e : TypeId}
    (hs : (DataW.weightsEach Tryz.prog ts ds).all (· ≤ reachBytes) = true) (ht : ts[j]? = some t) (hd : ds[j]? = some d) (hu : Tryz.prog.underlying t = some (.slice e)) : zs.length * Tryz.prog.bytesOf e ≤ 140737488351232 := by
  rcases h.datum with ⟨_, rfl⟩ | ⟨elems, spare, rfl, he⟩
  · simp
  · have := sized_slice hs ht hd hu
    unfold reachBytes at this
    rw [Nat.add_mul, he] at this
    omega

/-- A part's bulk is no more than the whole's. -/
theorem bulk_mem {H : Type} {d : DataW H} {l : List (DataW H)} (h : d ∈ l) : Rows.uptoBulk d ≤ Rows.uptoBulkAll l := by
  induction l with
  | nil => simp at h
  | cons x r ih =>
    rw [Rows.uptoBulkAll]
    rcases List.mem_cons.1 h with rfl | h
    · exact Nat.le_add_right _ _
    · exact Nat.le_trans (ih h) (Nat.le_add_left _ _)
theorem bulk_pos {H : Type} (d : DataW H) : 0 < Rows.uptoBulk d := by
  cases d with
  | lit l => cases l <;> simp [Rows.uptoBulk]
  | _ => simp [Rows.uptoBulk]
theorem bulk_length {H : Type} (l : List (DataW H)) : l.length ≤ Rows.uptoBulkAll l := by
  induction l with
  | nil => simp
  | cons x r ih => have := bulk_pos x; rw [Rows.uptoBulkAll, List.length_cons]; omega
theorem bulk_slice {H : Type} (elems spare : List (DataW H)) : elems.length ≤ Rows.uptoBulk (.slice elems spare) := by
  have := bulk_length elems
  rw [Rows.uptoBulk]; omega
theorem small_le {H : Type} {l : List (DataW H)} (h : Rows.uptoSmall H l = true) : Rows.uptoBulkAll l ≤ 1048576 := of_decide_eq_true h
theorem Came.small {H : Type} {W : World} {k : IntKind} {A : Option Addr} {c : Nat} {zs : List Int} {d : DataW H} (h : Came W k A c zs d) {ds : List (DataW H)} (hs : Rows.uptoSmall H ds = true) (hd : d ∈ ds) : zs.length ≤ 1048576 := by
  rcases h.datum with ⟨_, rfl⟩ | ⟨elems, spare, rfl, he⟩
  · simp
  · have h1 := bulk_slice elems spare
    have h2 := bulk_mem hd
    have h3 := small_le hs
    omega
theorem bulk_sum {H : Type} (D : Nat → DataW H) (n : Nat) : Rows.uptoBulkAll ((List.range n).map D) = ((List.range n).map fun i => Rows.uptoBulk (D i)).sum := by
  induction n with
  | zero => simp [Rows.uptoBulkAll]
  | succ n ih =>
    rw [List.range_succ, List.map_append, List.map_append, List.sum_append, ← ih]
    have happ : ∀ l r : List (DataW H), Rows.uptoBulkAll (l ++ r) = Rows.uptoBulkAll l + Rows.uptoBulkAll r := by
      intro l r
      induction l with
      | nil => simp [Rows.uptoBulkAll]
      | cons x l ih => rw [List.cons_append, Rows.uptoBulkAll, ih, Rows.uptoBulkAll]; omega
    rw [happ]
    simp [Rows.uptoBulkAll]
end Go.Proofs.YtjgonfnpfbifjaaGreatDoor
