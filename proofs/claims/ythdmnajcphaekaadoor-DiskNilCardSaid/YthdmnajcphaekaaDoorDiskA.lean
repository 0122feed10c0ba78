/- Contracts of package disk's resize, put, after. -/
import Derived.Test.YthdmnajcphaekaaDoorClone
import Derived.Test.YthdmnajcphaekaaDoorRowS
import Derived.Test.YthdmnajcphaekaaDoorMapW
import Derived.Test.YthdmnajcphaekaaDoorTM
import Derived.Test.YthdmnajcphaekaaDoorDiskNum
import Derived.Laws.CopyOwn
namespace Go.Proofs.YthdmnajcphaekaaDoor
open Go.RowKit

/-- A row that holds these bytes and no more. -/
def RowB (w : World) (g : Nat) (l : List UInt8) : Prop := w.heap[g]? = some (.cells (bcells l).toArray 5 (0, 0))
section
variable {w w' : World} {g : Nat} {l : List UInt8}
theorem RowB.ob (h : RowB w g l) {base : Nat} (hb : base ≤ g) (hl : l.length ≤ 9223372036854775807) : OB w base (some ⟨g, 0, none⟩) l.length l := by
  refine ⟨by simp [bcells_length], .inr ⟨g, l.length, _, rfl, hb, h, Nat.le_refl _, by unfold maxLen; exact hl, by simp [bcells_length], ?_⟩⟩
  rw [Nat.mul_one, ← bcells_length l, List.take_length]
theorem RowB.below (h : RowB w g l) (hb : Below w.heap.size w w') : RowB w' g l := by
  unfold RowB; rw [hb.block g (lt_of_block h)]; exact h
theorem made_zeroB (n : Nat) : (madeCells (Value.int .u8 0).cells (n * 1)).toList = bcells (List.replicate n 0) := by
  rw [Nat.mul_one]
  apply List.ext_getElem
  · simp [madeCells, bcells]
  · intro i h1 h2
    simp [madeCells, bcells, Value.cells, Nat.mod_one]
theorem RowB.made {n : Nat} (h : w.ownsRow 0 5 1 (.slice (some ⟨g, 0, none⟩) n n) n (madeCells (Value.int .u8 0).cells (n * 1)).toList) : RowB w g (List.replicate n 0) := by
  rw [made_zeroB] at h
  rcases h.2 with ⟨h', _⟩ | ⟨g', cap', cur, h', _, hg, _, _, hsz, htk⟩
  · simp at h'
  · simp only [Value.slice.injEq, Option.some.injEq, Addr.mk.injEq, and_true, true_and] at h'
    obtain ⟨rfl, rfl⟩ := h'
    unfold RowB
    rw [hg, ← htk]
    rw [List.take_of_length_le (by simp at hsz; simp; omega)]
end
/-- A guard: the next operation is a copy. -/
theorem at_copy {P : Program} {w : World} {ops : Array Oper} {rest : List Oper} {a : Act} {Q : Exit → Act → World → Prop} {dst : Option Tmp} {d s : Operand} {dT sT ty : TypeId} {pos : String} {af : Array Edge}
    (h : wpList P ops Q (Oper.mk dst (Op.call { callee := Callee.builtin Builtin.copy, args := #[d, s], argTypes := #[dT, sT] }) ty pos af none :: rest) a w) :
    wpList P ops Q (Oper.mk dst (Op.call { callee := Callee.builtin Builtin.copy, args := #[d, s], argTypes := #[dT, sT] }) ty pos af none :: rest) a w := h
theorem splice_head (n : Nat) (l : List UInt8) : splice (bcells (List.replicate n 0)) 0 (bcells (l.take n)) = bcells (resizeD l n) := by
  unfold splice resizeD
  rw [List.take_zero, List.nil_append, bcells_append, bcells_length, List.length_take, Nat.zero_add]
  congr 1
  simp only [bcells, ← List.map_drop, List.drop_replicate]
  congr 2
  omega

set_option maxRecDepth 20000 in
set_option maxHeartbeats 2000000 in
theorem diskResize (A : Option Addr) (c : Nat) (l : List UInt8) (n : Nat) (w : World) (h : RB w A l) (hn : n ≤ 281474976710656) :
    Calls Tryd.prog 54 #[.slice A l.length c, .int .i64 (n : Int)] w fun e w' => e = .returned (.slice (some ⟨w.heap.size, 0, none⟩) n n) ∧ RowB w' w.heap.size (resizeD l n) ∧ Below w.heap.size w w' := by
  obtain ⟨i0, hi0, hz0, hz1, hz2⟩ := info_parts u8_info
  have h1 : (Tryd.prog.info? 5).map (·.size) = some 1 := by rw [hi0]; simp [hz1]
  have HSP := Lib.hid (splice_head n l)
  obtain ⟨X, hX⟩ : ∃ X, X = bcells (l.take n) := ⟨_, rfl⟩
  obtain ⟨Z, hZ⟩ : ∃ Z, Z = bcells (List.replicate n 0) := ⟨_, rfl⟩
  have hXl : X.length = Nat.min l.length n := by rw [hX, bcells_length, List.length_take, Nat.min_comm]
  have hZl : Z.length = n := by rw [hZ, bcells_length, List.length_replicate]
  have hXc : Hid (∀ w' (g : Nat), RB w' A l → 0 < X.length → some (⟨g, 0, none⟩ : Addr) = some ⟨g, 0, none⟩ ∧ ∃ ad, A = some ad ∧ ∀ j v, X[j]? = some v → w'.cell? (ad.add j) = some v) := Lib.hid fun w' g hr h0 => by
    refine ⟨rfl, ?_⟩
    have h0' : 0 < l.length := by rw [hXl] at h0; exact Nat.lt_of_lt_of_le h0 (Nat.min_le_left _ _)
    obtain ⟨b, off, rfl, hlt, hc⟩ := hr.at_ h0'
    refine ⟨_, rfl, fun j v hv => ?_⟩
    rw [hX, bcells_get, List.getElem?_take] at hv
    split at hv
    · obtain ⟨x, hx, rfl⟩ := Option.map_eq_some_iff.1 hv
      have := hc j x hx
      rw [show (⟨b, off, none⟩ : Addr).add j = ⟨b, off + j, none⟩ from by unfold Addr.add; split <;> simp_all]
      exact this
    · simp at hv
  have hXo : Hid (∀ v ∈ X, v.oneCell' = true) := Lib.hid (by rw [hX]; exact bcells_one _)
  have H := Lib.hid h
  rw [← hX, ← hZ] at HSP
  have HZ := Lib.hid hZ
  clear h hX hZ
  go_enter Tryd.func54, Tryd.ntmps54
  go_wp2_with (first
    | (at_make; refine wpList_make_full _ rfl (.tmp 6) (.tmp 6) 23 rfl 0 5 i0 (.int .u8 0) 1 Tryd.underlying23 hi0 hz0 hz1 .i64 .i64 _ _ n rfl rfl rfl rfl (by rw [hz2]; omega) (by unfold maxLen; omega) (Nat.zero_le _) ?_; intro w1 ho1 hg1; have hb1 : Below w.heap.size w w1 := ⟨hg1.os, hg1.tape, hg1.output, hg1.size, fun j hj => hg1.block j hj (by simp)⟩; have HR : Hid (w1.heap[w.heap.size]? = some (.cells Z.toArray 5 (0, 0))) := Lib.hid (by rw [HZ.out]; exact RowB.made ho1); have HRB := Lib.hid (H.out.below hb1); clear ho1 hg1)
    | (with_reducible refine at_copy ?_; refine wpList_copy_splice rfl (.tmp 8) (.tmp 9) 23 23 rfl 5 Tryd.underlying23 h1 _ _ _ _ _ _ rfl rfl w.heap.size 0 Z 5 HR.out X hXl (hXc.out _ _ HRB.out) (by rw [hXl, hZl, Nat.zero_add]; exact Nat.min_le_right _ _) hXo.out w.heap.size w hb1 (Nat.le_refl _) ?_; intro w2 hg2 hb2))
  go_ret
  refine ⟨rfl, ?_, hb2⟩
  unfold RowB
  rw [← HSP.out]
  exact hg2.out

theorem splice_putD (l : List UInt8) (off : Nat) (d : List UInt8) : splice (bcells (resizeD l (max l.length (off + d.length)))) off (bcells d) = bcells (putD l off d) := by
  unfold splice putD
  rw [bcells_append, bcells_append, bcells_length, List.append_assoc]
  unfold bcells
  rw [List.map_take, List.map_drop]

set_option maxRecDepth 20000 in
set_option maxHeartbeats 2000000 in
theorem diskPut (A : Option Addr) (c : Nat) (l : List UInt8) (off : Nat) (X : Option Addr) (cx : Nat) (d : List UInt8) (w : World) (h : RB w A l) (k : RB w X d) (hl : l.length ≤ 140737488355328) (ho : off ≤ 4194304) (hd : d.length ≤ 140737488355328) :
    Calls Tryd.prog 53 #[.slice A l.length c, .int .i64 (off : Int), .slice X d.length cx] w fun e w' => e = .returned (.slice (some ⟨w.heap.size, 0, none⟩) (putD l off d).length (putD l off d).length) ∧ RowB w' w.heap.size (putD l off d) ∧ Below w.heap.size w w' := by
  obtain ⟨i0, hi0, hz0, hz1, hz2⟩ := info_parts u8_info
  have h1 : (Tryd.prog.info? 5).map (·.size) = some 1 := by rw [hi0]; simp [hz1]
  have HSP := Lib.hid (splice_putD l off d)
  have HLEN := Lib.hid (putD_len l off d)
  obtain ⟨n, hn⟩ : ∃ n, n = max l.length (off + d.length) := ⟨_, rfl⟩
  have hn1 : l.length ≤ n ∧ off + d.length ≤ n ∧ n ≤ 281474976710656 := by omega
  obtain ⟨hn1, hn2, hn3⟩ := hn1
  have C : Hid (∀ N : Int, N = (n : Int) → Calls Tryd.prog 54 #[.slice A l.length c, .int .i64 N] w fun e w' => e = .returned (.slice (some ⟨w.heap.size, 0, none⟩) n n) ∧ RowB w' w.heap.size (resizeD l n) ∧ Below w.heap.size w w') := Lib.hid fun N hN => by
    subst hN
    exact diskResize A c l n w h hn3
  obtain ⟨Y, hY⟩ : ∃ Y, Y = bcells d := ⟨_, rfl⟩
  obtain ⟨Z, hZ⟩ : ∃ Z, Z = bcells (resizeD l n) := ⟨_, rfl⟩
  rw [← hn] at HSP HLEN
  rw [← hY, ← hZ] at HSP
  have hYl : Y.length = d.length := by rw [hY, bcells_length]
  have hZl : Z.length = n := by rw [hZ, bcells_length, resizeD_len]
  have HY : Hid (∀ w', Below w.heap.size w w' → 0 < Y.length → ∃ ad, X = some ad ∧ ∀ j v, Y[j]? = some v → w'.cell? (ad.add j) = some v) := Lib.hid fun w' hb h0 => by
    obtain ⟨b, o, rfl, hlt, hc⟩ := (k.below hb).at_ (by omega)
    refine ⟨_, rfl, fun j v hv => ?_⟩
    rw [hY, bcells_get] at hv
    obtain ⟨x, hx, rfl⟩ := Option.map_eq_some_iff.1 hv
    have := hc j x hx
    rw [show (⟨b, o, none⟩ : Addr).add j = ⟨b, o + j, none⟩ from by unfold Addr.add; split <;> simp_all]
    exact this
  have hYo : Hid (∀ v ∈ Y, v.oneCell' = true) := Lib.hid (by rw [hY]; exact bcells_one _)
  have HN := Lib.hid hn
  rw [hn] at HLEN
  rw [← hn] at HLEN
  have HZ := Lib.hid hZ
  clear h k hY hZ hn
  rw [HLEN.out]
  clear HLEN
  go_enter Tryd.func53, Tryd.ntmps53
  go_wp2_with fail
  all_goals
    refine (C.out _ (by have := HN.out; omega)).mono ?_
    rintro e w1 ⟨rfl, hr1, hb1⟩
    have HR : Hid (w1.heap[w.heap.size]? = some (.cells Z.toArray 5 (0, 0))) := Lib.hid (by rw [HZ.out]; exact hr1)
    have HYw := Lib.hid (HY.out w1 hb1)
    clear hr1
    go_wp2_with (with_reducible refine at_copy ?_; refine wpList_copy_splice rfl (.tmp 19) (.tmp 20) 23 23 rfl 5 Tryd.underlying23 h1 _ _ _ _ _ _ rfl rfl w.heap.size off Z 5 HR.out Y (by rw [hYl]; exact (Nat.min_eq_left (by omega)).symm) (fun h0 => ⟨by first | rfl | (exfalso; omega) | (simp; intro hno; exfalso; omega), HYw.out h0⟩) (by omega) hYo.out w.heap.size w hb1 (Nat.le_refl _) ?_; intro w2 hg2 hb2)
    all_goals
      go_ret
      refine ⟨rfl, ?_, hb2⟩
      unfold RowB
      rw [← HSP.out]
      exact hg2.out
end Go.Proofs.YthdmnajcphaekaaDoor
