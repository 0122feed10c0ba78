/- The reference's clocks in memory; contracts of At, NewClocks, Tick. -/
import Derived.Test.YtekkcbonkjdgeaaClockE
import Derived.Test.YtekkcbonkjdgeaaPlanE
import Derived.OwnWalk
namespace Go.Proofs.Ytekkcbonkjdgeaa
open Go.RowKit

/-- A row of numbers of the call's own, as 'make' lays it. -/
def NR (w : World) (g : Nat) (zs : List Int) : Prop := w.ownsRow 0 2 1 (.slice (some ⟨g, 0, none⟩) zs.length zs.length) zs.length (zs.map (Value.int .i64))
section
variable {w w' : World} {g : Nat} {zs : List Int}
theorem NR.of_own {base n : Nat} (h : w.ownsRow base 2 1 (.slice (some ⟨g, 0, none⟩) n n) n (zs.map (Value.int .i64))) (hn : zs.length = n) : NR w g zs := by
  subst hn
  refine ⟨h.1, ?_⟩
  rcases h.2 with h1 | ⟨g', cap, cur, hv, hb, r⟩
  · exact .inl h1
  · exact .inr ⟨g', cap, cur, hv, Nat.zero_le _, r⟩
theorem NR.blk (h : NR w g zs) : ∃ cs, w.heap[g]? = some (.cells cs 2 (0, 0)) := by
  rcases h.2 with ⟨h', _⟩ | ⟨g', cap', cur, h', _, hg, _⟩
  · simp at h'
  · simp only [Value.slice.injEq, Option.some.injEq, Addr.mk.injEq, and_true, true_and] at h'
    obtain ⟨rfl, rfl⟩ := h'
    exact ⟨_, hg⟩
theorem NR.lt (h : NR w g zs) : g < w.heap.size := by obtain ⟨cs, hc⟩ := h.blk; exact lt_of_block hc
theorem NR.cell (h : NR w g zs) {j : Nat} (hj : j < zs.length) : w.cell? ⟨g, j, none⟩ = some (.int .i64 zs[j]) := by
  rw [World.ownsRow.cellAt h j (by omega)]
  simp [hj]
theorem NR.free (h : NR w g zs) (j : Nat) : w.frozen? ⟨g, j, none⟩ = false := World.ownsRow.frozenAt h j
theorem NR.of_block (h : NR w g zs) (hk : w'.heap[g]? = w.heap[g]?) : NR w' g zs := by
  refine ⟨h.1, ?_⟩
  rcases h.2 with h1 | ⟨g', cap, cur, hv, hb, hg, r⟩
  · exact .inl h1
  · have hv' := hv
    simp only [Value.slice.injEq, Option.some.injEq, Addr.mk.injEq, and_true, true_and] at hv'
    obtain ⟨rfl, rfl⟩ := hv'
    exact .inr ⟨g, _, cur, rfl, hb, by rw [hk]; exact hg, r⟩
theorem NR.below (h : NR w g zs) (hb : Below w.heap.size w w') : NR w' g zs := h.of_block (hb.block g h.lt)
theorem NR.tm {bad : Obj → Prop} (h : NR w g zs) (t : TM bad w w') (hb : ∀ cs, ¬ bad (.cells cs 2 (0, 0))) : NR w' g zs := by
  obtain ⟨cs, hc⟩ := h.blk
  exact h.of_block (by rw [hc]; exact t.block g _ hc (hb cs))
theorem NR.set (h : NR w g zs) (j : Nat) (v : Int) : NR (w.setCell ⟨g, j, none⟩ (.int .i64 v)) g (zs.set j v) := by
  have := (World.ownsRow.stored h j (.int .i64 v)).1
  unfold NR
  rw [List.length_set, List.map_set]
  exact this
theorem NR.setCell_other (h : NR w g zs) {p : Addr} (hp : g ≠ p.block) (v : Value) : NR (w.setCell p v) g zs := h.of_block (Below.heap_setCell w p v g hp)
theorem NR.ne_var (h : NR w g zs) {k : Nat} {cs : Array Value} {T : TypeId} (hk : Blk w k T cs) (hT : T ≠ 2) : g ≠ k := by
  rintro rfl
  obtain ⟨cs', hc⟩ := h.blk
  rw [show w.heap[g]? = _ from hk] at hc
  injection hc with hc
  injection hc with _ hc
  exact hT hc
end

/-- The end at a place. -/
def endAt (nodes : Int) (i : Nat) : Int := if (i : Int) < nodes then (i : Int) + 1 else nodes - (i : Int) - 1
def timesL (s : Clk) : List Int := (List.range (s.nodes + s.edges).toNat).map fun i => s.T (endAt s.nodes i)
theorem timesL_len (s : Clk) : (timesL s).length = (s.nodes + s.edges).toNat := by simp [timesL]
theorem timesL_get (s : Clk) (i : Nat) (hi : i < (timesL s).length) : (timesL s)[i] = s.T (endAt s.nodes i) := by simp [timesL]
theorem endAt_in {s : Clk} (h : s.ok) {i : Nat} (hi : i < (timesL s).length) : inE s.nodes s.edges (endAt s.nodes i) = true := by
  rw [timesL_len] at hi
  obtain ⟨⟨a1, a2⟩, ⟨b1, b2⟩, _⟩ := h
  unfold inE endAt
  split <;> simp <;> omega
/-- The place of an end. -/
def atV (s : Clk) (x : Int) : Int := if 1 ≤ x ∧ x ≤ s.nodes then x - 1 else if x ≤ -1 ∧ -s.edges ≤ x then s.nodes - x - 1 else -1
theorem atV_in {s : Clk} (h : s.ok) {x : Int} (hx : inE s.nodes s.edges x = true) : 0 ≤ atV s x ∧ (atV s x).toNat < (timesL s).length ∧ endAt s.nodes (atV s x).toNat = x := by
  rw [timesL_len]
  obtain ⟨⟨a1, a2⟩, ⟨b1, b2⟩, _⟩ := h
  unfold inE at hx
  simp at hx
  unfold atV endAt
  by_cases h1 : 1 ≤ x ∧ x ≤ s.nodes
  · rw [if_pos h1]
    refine ⟨by omega, by omega, ?_⟩
    rw [if_pos (by omega)]
    omega
  · rw [if_neg h1, if_pos (by omega)]
    refine ⟨by omega, by omega, ?_⟩
    rw [if_neg (by omega)]
    omega
theorem atV_out {s : Clk} {x : Int} (hx : ¬ inE s.nodes s.edges x = true) (hok : s.ok) : atV s x = -1 := by
  obtain ⟨⟨a1, a2⟩, ⟨b1, b2⟩, _⟩ := hok
  unfold inE at hx
  simp at hx
  unfold atV
  rw [if_neg (by omega), if_neg (by omega)]

/-- The reference's clocks in memory, from block n on. -/
def WI (n : Nat) (w : World) (g : Nat) (s : Clk) : Prop :=
  ∃ gt : Nat, Blk w g 88 #[.int .i64 s.nodes, .int .i64 s.edges, .int .i64 s.rho, .slice (some ⟨gt, 0, none⟩) (timesL s).length (timesL s).length, .int .i64 s.real, .bool s.skew] ∧ NR w gt (timesL s) ∧ (n ≤ g ∧ n ≤ gt) ∧ s.ok

section
variable {n : Nat} {w w' : World} {g : Nat} {s : Clk}
theorem WI.below (h : WI n w g s) (hb : Below w.heap.size w w') : WI n w' g s := by
  obtain ⟨gt, h1, h2, r⟩ := h
  exact ⟨gt, h1.kept hb, h2.below hb, r⟩
theorem WI.tm (h : WI n w g s) (t : TM badC w w') : WI n w' g s := by
  obtain ⟨gt, h1, h2, r⟩ := h
  exact ⟨gt, h1.tm t (by simp [badC]), h2.tm t (by simp [badC]), r⟩
theorem WI.ok (h : WI n w g s) : s.ok := by obtain ⟨gt, _, _, _, r⟩ := h; exact r

set_option maxRecDepth 20000 in
set_option maxHeartbeats 2000000 in
theorem refAt (x : Int) (h : WI n w g s) (hx : -9223372036854775808 ≤ x ∧ x ≤ 9223372036854775807) : Calls Try.prog 58 #[.pointer (some ⟨g, 0, none⟩), .int .i64 x] w fun e w' => e = .returned (.int .i64 (atV s x)) ∧ w = w' := by
  obtain ⟨gt, h1, h2, hn, hok⟩ := h
  obtain ⟨⟨a1, a2⟩, ⟨b1, b2⟩, _⟩ := hok
  obtain ⟨x1, x2⟩ := hx
  have c0 := h1.cell 0 rfl
  have c1 := h1.cell 1 rfl
  have HA := Lib.hid (show atV s x = if 1 ≤ x ∧ x ≤ s.nodes then x - 1 else if x ≤ -1 ∧ -s.edges ≤ x then s.nodes - x - 1 else -1 from rfl)
  generalize atV s x = av at *
  clear h1 h2 hn
  generalize s.nodes = nd at *
  generalize s.edges = ed at *
  by_cases p1 : 1 ≤ x
  · by_cases p2 : x ≤ nd
    · have hv := HA.out
      rw [if_pos ⟨p1, p2⟩] at hv
      subst hv
      clear HA
      go_enter Try.func58, Try.ntmps58
      go_wp2_with fail
      go_ret
      exact ⟨rfl, rfl⟩
    · have hv := HA.out
      rw [if_neg (by omega), if_neg (by omega)] at hv
      subst hv
      have p3 : ¬ x ≤ -1 := by omega
      clear HA
      go_enter Try.func58, Try.ntmps58
      go_wp2_with fail
      go_ret
      exact ⟨rfl, rfl⟩
  · by_cases p3 : x ≤ -1
    · by_cases p4 : -ed ≤ x
      · have hv := HA.out
        rw [if_neg (by omega), if_pos ⟨p3, p4⟩] at hv
        subst hv
        clear HA
        go_enter Try.func58, Try.ntmps58
        go_wp2_with fail
        go_ret
        exact ⟨rfl, rfl⟩
      · have hv := HA.out
        rw [if_neg (by omega), if_neg (by omega)] at hv
        subst hv
        clear HA
        go_enter Try.func58, Try.ntmps58
        go_wp2_with fail
        go_ret
        exact ⟨rfl, rfl⟩
    · have hv := HA.out
      rw [if_neg (by omega), if_neg (by omega)] at hv
      subst hv
      clear HA
      go_enter Try.func58, Try.ntmps58
      go_wp2_with fail
      go_ret
      exact ⟨rfl, rfl⟩
end

theorem i64_info : (Try.prog.info? 2).map (fun i => (i.zero, i.size, i.bytes)) = some (some (.int .i64 0), 1, 8) := by kernel_rfl
theorem made_zero (n : Nat) : (madeCells (Value.int .i64 0).cells (n * 1)).toList = (List.replicate n (0 : Int)).map (Value.int .i64) := by
  rw [Nat.mul_one]
  apply List.ext_getElem
  · simp [madeCells]
  · intro i h1 h2
    simp [madeCells, Value.cells, Nat.mod_one]
theorem times_zero (nodes edges rho : Int) : timesL (clk0 nodes edges rho) = List.replicate (nodes + edges).toNat 0 := by
  apply List.ext_getElem
  · simp [timesL, clk0]
  · intro i h1 h2
    simp [timesL, clk0]

set_option maxHeartbeats 2000000 in
theorem refNew_bad (nodes edges rho : Int) (w : World) (h : newOk nodes edges rho = false) : Calls Try.prog 33 #[.int .i64 nodes, .int .i64 edges, .int .i64 rho] w fun e w' => e = .returned (.tuple #[.pointer none, .int .i64 1]) ∧ w = w' := by
  have h' : ¬ ((1 ≤ nodes ∧ nodes ≤ 16) ∧ (0 ≤ edges ∧ edges ≤ 16) ∧ 0 ≤ rho ∧ rho ≤ 500000) := by simpa [newOk] using h
  clear h
  by_cases h1 : nodes < 1
  · go_enter Try.func33, Try.ntmps33
    go_wp2_with fail
    go_ret2
    exact ⟨rfl, rfl⟩
  by_cases h2 : 16 < nodes
  · go_enter Try.func33, Try.ntmps33
    go_wp2_with fail
    go_ret2
    exact ⟨rfl, rfl⟩
  by_cases h3 : edges < 0
  · go_enter Try.func33, Try.ntmps33
    go_wp2_with fail
    go_ret2
    exact ⟨rfl, rfl⟩
  by_cases h4 : 16 < edges
  · go_enter Try.func33, Try.ntmps33
    go_wp2_with fail
    go_ret2
    exact ⟨rfl, rfl⟩
  by_cases h5 : rho < 0
  · go_enter Try.func33, Try.ntmps33
    go_wp2_with fail
    go_ret2
    exact ⟨rfl, rfl⟩
  have h6 : 500000 < rho := by omega
  clear h'
  go_enter Try.func33, Try.ntmps33
  go_wp2_with fail
  go_ret2
  exact ⟨rfl, rfl⟩

set_option maxRecDepth 20000 in
set_option maxHeartbeats 2000000 in
theorem refNewC (nodes edges rho : Int) (w : World) (h : newOk nodes edges rho = true) : Calls Try.prog 33 #[.int .i64 nodes, .int .i64 edges, .int .i64 rho] w fun e w' => ∃ g, e = .returned (.tuple #[.pointer (some ⟨g, 0, none⟩), .int .i64 0]) ∧ WI w.heap.size w' g (clk0 nodes edges rho) ∧ Below w.heap.size w w' := by
  have h' : (1 ≤ nodes ∧ nodes ≤ 16) ∧ (0 ≤ edges ∧ edges ≤ 16) ∧ 0 ≤ rho ∧ rho ≤ 500000 := by simpa [newOk] using h
  obtain ⟨⟨n1, n2⟩, ⟨e1, e2⟩, r1, r2⟩ := h'
  clear h
  obtain ⟨i0, hi0, hz0, hz1, hz2⟩ := info_parts i64_info
  obtain ⟨k, hk⟩ : ∃ k : Nat, nodes + edges = (k : Int) := ⟨(nodes + edges).toNat, by omega⟩
  have hk32 : k ≤ 32 := by omega
  have HK := Lib.hid hk
  go_enter Try.func33, Try.ntmps33
  go_wp2_with (at_make; refine wpList_make_full _ rfl (.tmp 35) (.tmp 35) 86 rfl w.heap.size 2 i0 (.int .i64 0) 1 Try.underlying86 hi0 hz0 hz1 .i64 .i64 _ _ k rfl rfl (by first | exact HK.out | rfl) (by first | exact HK.out | rfl) (by rw [hz2]; omega) (by unfold maxLen; omega) (Nat.le_refl _) ?_; intro w1 ho1 hg1)
  have hb1 : Below w.heap.size w w1 := ⟨hg1.os, hg1.tape, hg1.output, hg1.size, fun j hj => hg1.block j hj (by simp)⟩
  have hnr : NR w1 w.heap.size (List.replicate k 0) := NR.of_own (by rw [made_zero] at ho1; exact ho1) (by simp)
  have hal : Below w1.heap.size w1 (w1.alloc (.cells #[.int .i64 nodes, .int .i64 edges, .int .i64 rho, .slice (some ⟨w.heap.size, 0, none⟩) k k, .int .i64 0, .bool false] 88)) := (Below.refl _ _).alloc (Nat.le_refl _) _
  have hblk := Blk.new w1 #[.int .i64 nodes, .int .i64 edges, .int .i64 rho, .slice (some ⟨w.heap.size, 0, none⟩) k k, .int .i64 0, .bool false] 88
  have hB := hb1.trans (hal.mono hb1.size)
  have hT : timesL (clk0 nodes edges rho) = List.replicate k 0 := by rw [times_zero, hk, Int.toNat_natCast]
  have HF : Hid (∃ g, (Ending.returned (.tuple #[.pointer (some ⟨w1.heap.size, 0, none⟩), .int .i64 0])) = .returned (.tuple #[.pointer (some ⟨g, 0, none⟩), .int .i64 0]) ∧ WI w.heap.size (w1.alloc (.cells #[.int .i64 nodes, .int .i64 edges, .int .i64 rho, .slice (some ⟨w.heap.size, 0, none⟩) k k, .int .i64 0, .bool false] 88)) g (clk0 nodes edges rho) ∧ Below w.heap.size w (w1.alloc (.cells #[.int .i64 nodes, .int .i64 edges, .int .i64 rho, .slice (some ⟨w.heap.size, 0, none⟩) k k, .int .i64 0, .bool false] 88))) :=
    Lib.hid ⟨_, rfl, ⟨w.heap.size, by rw [hT, List.length_replicate]; exact hblk, by rw [hT]; exact hnr.below hal, ⟨hb1.size, Nat.le_refl _⟩, ⟨n1, n2⟩, ⟨e1, e2⟩, ⟨r1, r2⟩, ⟨by simp [clk0], by simp [clk0]⟩, fun y _ => by simp [clk0]⟩, hB⟩
  go_ret2
  exact HF.out
end Go.Proofs.Ytekkcbonkjdgeaa
