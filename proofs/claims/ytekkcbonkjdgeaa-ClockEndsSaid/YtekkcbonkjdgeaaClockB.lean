/- Contracts of package clock: New, Tick, Copy. -/
import Derived.Test.YtekkcbonkjdgeaaClockA
import Derived.Shelf.SlMaps.Clone
namespace Go.Proofs.Ytekkcbonkjdgeaa
open Go.RowKit

theorem below_wset {B m : Nat} {w a : World} (h : Below B w a) (hm : B ≤ m) (ob : Obj) : Below B w (wset a m ob) :=
  ⟨h.os, h.tape, h.output, by rw [wset_size]; exact h.size, fun k hk => (wset_other a m ob k (by omega)).trans (h.block k hk)⟩
theorem Blk.wset_ne {w : World} {g m : Nat} {T : TypeId} {cs : Array Value} (h : Blk w g T cs) (hne : g ≠ m) (ob : Obj) : Blk (wset w m ob) g T cs := by
  unfold Blk; rw [wset_other w m ob g hne]; exact h

/-- The settings that may be. -/
def newOk (nodes edges rho : Int) : Bool := decide ((1 ≤ nodes ∧ nodes ≤ 16) ∧ (0 ≤ edges ∧ edges ≤ 16) ∧ 0 ≤ rho ∧ rho ≤ 500000)
def clk0 (nodes edges rho : Int) : Clk := ⟨nodes, edges, rho, 0, false, fun _ => 0⟩

set_option maxHeartbeats 2000000 in
theorem clockNew_bad (nodes edges rho : Int) (w : World) (h : newOk nodes edges rho = false) : Calls Try.prog 24 #[.int .i64 nodes, .int .i64 edges, .int .i64 rho] w fun e w' => e = .returned (.tuple #[.pointer none, .int .i64 1]) ∧ w = w' := by
  have h' : ¬ ((1 ≤ nodes ∧ nodes ≤ 16) ∧ (0 ≤ edges ∧ edges ≤ 16) ∧ 0 ≤ rho ∧ rho ≤ 500000) := by simpa [newOk] using h
  clear h
  by_cases h1 : nodes < 1
  · go_enter Try.func24, Try.ntmps24
    go_wp2_with fail
    go_ret2
    exact ⟨rfl, rfl⟩
  by_cases h2 : 16 < nodes
  · go_enter Try.func24, Try.ntmps24
    go_wp2_with fail
    go_ret2
    exact ⟨rfl, rfl⟩
  by_cases h3 : edges < 0
  · go_enter Try.func24, Try.ntmps24
    go_wp2_with fail
    go_ret2
    exact ⟨rfl, rfl⟩
  by_cases h4 : 16 < edges
  · go_enter Try.func24, Try.ntmps24
    go_wp2_with fail
    go_ret2
    exact ⟨rfl, rfl⟩
  by_cases h5 : rho < 0
  · go_enter Try.func24, Try.ntmps24
    go_wp2_with fail
    go_ret2
    exact ⟨rfl, rfl⟩
  have h6 : 500000 < rho := by omega
  clear h'
  go_enter Try.func24, Try.ntmps24
  go_wp2_with fail
  go_ret2
  exact ⟨rfl, rfl⟩

set_option maxRecDepth 20000 in
set_option maxHeartbeats 4000000 in
theorem clockNew (nodes edges rho : Int) (w : World) (h : newOk nodes edges rho = true) : Calls Try.prog 24 #[.int .i64 nodes, .int .i64 edges, .int .i64 rho] w fun e w' => ∃ g, e = .returned (.tuple #[.pointer (some ⟨g, 0, none⟩), .int .i64 0]) ∧ CI w.heap.size w' g (clk0 nodes edges rho) ∧ Below w.heap.size w w' := by
  have h' : (1 ≤ nodes ∧ nodes ≤ 16) ∧ (0 ≤ edges ∧ edges ≤ 16) ∧ 0 ≤ rho ∧ rho ≤ 500000 := by simpa [newOk] using h
  obtain ⟨⟨n1, n2⟩, ⟨e1, e2⟩, r1, r2⟩ := h'
  clear h
  have hmk := run_makeMap (P := Try.prog) 80 w
  have hm : MapAt (Value.int .i64) (w.alloc (.map #[] 0)) w.heap.size ([] : List (Int × Value)) := MapAt.made w
  have hb1 := (Below.refl w.heap.size w).alloc (Nat.le_refl _) (.map #[] 0)
  have hb2 := (Below.refl (w.alloc (.map #[] 0)).heap.size (w.alloc (.map #[] 0))).alloc (Nat.le_refl _) (.cells #[.map (some w.heap.size), .int .i64 nodes, .int .i64 edges, .int .i64 rho, .int .i64 0, .bool false] 82)
  have hk := Blk.new (w.alloc (.map #[] 0)) #[.map (some w.heap.size), .int .i64 nodes, .int .i64 edges, .int .i64 rho, .int .i64 0, .bool false] 82
  rw [show (w.alloc (.map #[] 0)).heap.size = w.heap.size + 1 from by simp] at hk
  have hm2 := hm.below hb2
  have hB := hb1.trans (hb2.mono hb1.size)
  clear hm hb1 hb2
  go_enter Try.func24, Try.ntmps24
  go_wp2_with fail
  generalize hw2 : (w.alloc (.map #[] 0)).alloc (.cells #[.map (some w.heap.size), .int .i64 nodes, .int .i64 edges, .int .i64 rho, .int .i64 0, .bool false] 82) = w2 at *
  obtain ⟨m, hmm⟩ : ∃ m, m = w.heap.size := ⟨_, rfl⟩
  rw [← hmm] at hk hm2 ⊢
  have HM := Lib.hid hmm
  clear hw2 hmk hmm
  go_loopw [9] (fun v wr => ∃ (x : Int) (es : List (Int × Value)), -edges ≤ x ∧ x ≤ nodes + 1 ∧ v = .int .i64 x ∧ Blk wr (m + 1) 82 #[.map (some m), .int .i64 nodes, .int .i64 edges, .int .i64 rho, .int .i64 0, .bool false] ∧ MapAt (Value.int .i64) wr m es ∧
      Hid (∀ y, mget es y = if inE nodes edges y = true ∧ y < x then some (.int .i64 0) else none) ∧ Below w.heap.size w wr)
    (fun v _ => (nodes + 1 - intOf v).toNat)
  case atStart => exact ⟨-edges, [], by omega, by omega, rfl, hk, hm2, Lib.hid (fun y => by rw [if_neg]; rfl; unfold inE; simp; omega), hB⟩
  case round =>
    obtain ⟨x, es, hx1, hx2, rfl, hblk, hmap, hes, hb⟩ := hrel
    have c0 := hblk.cell 0 rfl
    clear hk hm2 hB
    by_cases hle : x ≤ nodes
    · by_cases hx0 : x = 0
      · subst hx0
        have HE : Hid (∀ y, mget es y = if inE nodes edges y = true ∧ y < 0 + 1 then some (.int .i64 0) else none) := Lib.hid (fun y => by
          rw [hes.out]
          congr 1
          unfold inE
          simp
          omega)
        clear hes
        go_wp2_with fail
        go_roundw
        case rel => exact ⟨0 + 1, es, by omega, by omega, by go_num, hblk, hmap, HE, hb⟩
        case measure => simp [intOf]; omega
      · have hx0' : (x != 0) = true := by simpa using hx0
        have HE : Hid (∀ y, mget (mput es x (.int .i64 0)) y = if inE nodes edges y = true ∧ y < x + 1 then some (.int .i64 0) else none) := Lib.hid (fun y => by
          rw [mget_mputV, hes.out]
          by_cases hy : y = x
          · subst hy
            rw [if_pos rfl, if_pos]
            unfold inE
            simp
            omega
          · rw [if_neg hy]
            congr 1
            simp
            omega)
        have HMAP := Lib.hid hmap
        clear hes hx0 hmap
        go_wp2_with (at_mapUpdate; refine wp_mapUpdateT _ rfl intLaw HMAP.out (.tmp 50) (.tmp 51) (.const (.int .i64 0)) rfl Try.underlying80 x (.int .i64 0) rfl rfl rfl ?_; intro ob hmap2)
        have hblk2 := hblk.wset_ne (show m + 1 ≠ m by omega) ob
        have hb2 := below_wset hb (by rw [HM.out]; exact Nat.le_refl _) (m := m) ob
        clear hblk hb c0
        go_roundw
        case rel => exact ⟨x + 1, _, by omega, by omega, by go_num, hblk2, hmap2, HE, hb2⟩
        case measure => simp [intOf]; omega
    · have HF : Hid (CI w.heap.size wr (m + 1) (clk0 nodes edges rho)) := Lib.hid ⟨m, es, hblk, hmap, fun y => by
        rw [hes.out]
        unfold Clk.mapOf clk0
        simp only
        congr 1
        unfold inE
        simp
        omega, ⟨by have := HM.out; omega, by have := HM.out; omega⟩, ⟨n1, n2⟩, ⟨e1, e2⟩, ⟨r1, r2⟩, ⟨by simp [clk0], by simp [clk0]⟩, fun y _ => by simp [clk0]⟩
      clear hes hmap hblk c0
      go_wp2_with fail
      go_ret2
      exact ⟨m + 1, rfl, HF.out, hb⟩
end Go.Proofs.Ytekkcbonkjdgeaa
