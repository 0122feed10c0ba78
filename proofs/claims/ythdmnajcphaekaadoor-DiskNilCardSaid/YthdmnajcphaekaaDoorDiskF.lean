/- Contracts of package disk's New, after, burn. -/
import Derived.Test.YthdmnajcphaekaaDoorDiskE
namespace Go.Proofs.YthdmnajcphaekaaDoor
open Go.RowKit

def dsk0 (room : Int) : DSt := ⟨[], [], room, 0, false⟩
theorem FI.empty {S : Nat → Prop} {m : Nat} {w : World} (h : MapAt encStr w m ([] : List (Nm × Value))) (hn : S m) : FI S w m [] :=
  ⟨[], h, ⟨fun k v hk => by simp [mget] at hk, fun _ _ => rfl⟩, List.Pairwise.nil, hn⟩
theorem UI.nil (S : Nat → Prop) (w : World) : UI S w none 0 [] := ⟨[], rfl, OR.nil _ _ _ _, by simp, by simp⟩

set_option maxHeartbeats 1000000 in
theorem diskNew_bad (room : Int) (w : World) (h : room < 0 ∨ 4194304 < room) : Calls Tryd.prog 29 #[.int .i64 room] w fun e w' => e = .returned (.tuple #[.pointer none, .int .i64 1]) ∧ w = w' := by
  rcases h with h | h
  all_goals
    go_enter Tryd.func29, Tryd.ntmps29
    go_wp2_with fail
    go_ret2
    exact ⟨rfl, rfl⟩
set_option maxRecDepth 20000 in
set_option maxHeartbeats 2000000 in
theorem diskNew (room : Int) (w : World) (h0 : 0 ≤ room) (h1 : room ≤ 4194304) : Calls Tryd.prog 29 #[.int .i64 room] w fun e w' => ∃ g, e = .returned (.tuple #[.pointer (some ⟨g, 0, none⟩), .int .i64 0]) ∧ DI (News w w') w' g (dsk0 room) ∧ Below w.heap.size w w' := by
  have hmk := run_makeMap (P := Tryd.prog) 67 w
  have hmk2 := run_makeMap (P := Tryd.prog) 67 (w.alloc (.map #[] 0))
  have hm1 : MapAt encStr (w.alloc (.map #[] 0)) w.heap.size ([] : List (Nm × Value)) := MapAt.made w
  have hm2 : MapAt encStr ((w.alloc (.map #[] 0)).alloc (.map #[] 0)) (w.alloc (.map #[] 0)).heap.size ([] : List (Nm × Value)) := MapAt.made _
  have hb1 : Below w.heap.size w (w.alloc (.map #[] 0)) := (Below.refl _ _).alloc (Nat.le_refl _) _
  have hb2 : Below (w.alloc (.map #[] 0)).heap.size (w.alloc (.map #[] 0)) ((w.alloc (.map #[] 0)).alloc (.map #[] 0)) := (Below.refl _ _).alloc (Nat.le_refl _) _
  have hs1 : (w.alloc (.map #[] 0)).heap.size = w.heap.size + 1 := by simp
  have hs2 : ((w.alloc (.map #[] 0)).alloc (.map #[] 0)).heap.size = w.heap.size + 1 + 1 := by simp
  have hm1' := hm1.below hb2
  rw [hs1] at hm2 hmk2
  have hblk := Blk.new ((w.alloc (.map #[] 0)).alloc (.map #[] 0)) #[.map (some w.heap.size), .map (some (w.heap.size + 1)), .slice none 0 0, .int .i64 room, .int .i64 0, .bool false] 69
  have hb3 : Below ((w.alloc (.map #[] 0)).alloc (.map #[] 0)).heap.size ((w.alloc (.map #[] 0)).alloc (.map #[] 0)) (((w.alloc (.map #[] 0)).alloc (.map #[] 0)).alloc (.cells #[.map (some w.heap.size), .map (some (w.heap.size + 1)), .slice none 0 0, .int .i64 room, .int .i64 0, .bool false] 69)) := (Below.refl _ _).alloc (Nat.le_refl _) _
  have HF : Hid (∃ g, (Ending.returned (.tuple #[.pointer (some ⟨w.heap.size + 1 + 1, 0, none⟩), .int .i64 0])) = .returned (.tuple #[.pointer (some ⟨g, 0, none⟩), .int .i64 0]) ∧ DI (News w (((w.alloc (.map #[] 0)).alloc (.map #[] 0)).alloc (.cells #[.map (some w.heap.size), .map (some (w.heap.size + 1)), .slice none 0 0, .int .i64 room, .int .i64 0, .bool false] 69))) (((w.alloc (.map #[] 0)).alloc (.map #[] 0)).alloc (.cells #[.map (some w.heap.size), .map (some (w.heap.size + 1)), .slice none 0 0, .int .i64 room, .int .i64 0, .bool false] 69)) g (dsk0 room) ∧ Below w.heap.size w (((w.alloc (.map #[] 0)).alloc (.map #[] 0)).alloc (.cells #[.map (some w.heap.size), .map (some (w.heap.size + 1)), .slice none 0 0, .int .i64 room, .int .i64 0, .bool false] 69))) := Lib.hid (by
    rw [hs2] at hblk
    refine ⟨_, rfl, ⟨w.heap.size, w.heap.size + 1, none, 0, ⟨hblk, .empty (hm1'.below hb3) ⟨Nat.le_refl _, by simp; omega⟩, .empty (hm2.below hb3) ⟨by omega, by simp⟩, by omega, .nil _ _, ⟨by omega, by simp⟩, ⟨⟨h0, h1⟩, ⟨by simp [dsk0], by simp [dsk0]⟩, fun k l hk => by simp [dsk0, fget] at hk, by simp [dsk0]⟩, fun b hb => hb.2⟩⟩, ?_⟩
    exact (hb1.trans (hb2.mono (by omega))).trans (hb3.mono (by omega)))
  clear hm1 hm2 hb1 hb2 hm1' hblk hb3
  go_enter Tryd.func29, Tryd.ntmps29
  go_wp2_with fail
  go_ret2
  exact HF.out

/-- The fuse is one less. -/
def burnD (D : DSt) : DSt := if 0 < D.fuse then { D with fuse := D.fuse - 1, down := decide (D.fuse - 1 = 0) } else D
theorem burnD_files (D : DSt) : (burnD D).files = D.files := by unfold burnD; split <;> rfl
theorem burnD_sure (D : DSt) : (burnD D).sure = D.sure := by unfold burnD; split <;> rfl
theorem burnD_unsure (D : DSt) : (burnD D).unsure = D.unsure := by unfold burnD; split <;> rfl
section
variable {S : Nat → Prop} {n m g : Nat} {w w' : World} {F : FS} {T : TypeId} {cs : Array Value}
theorem FI.of_var (h : FI S w m F) (hb : Blk w g T cs) (hT : 5 ≠ T) (hk : ∀ b, b ≠ g → w'.heap[b]? = w.heap[b]?) : FI S w' m F := by
  obtain ⟨es, h1, h2, r⟩ := h
  exact ⟨es, h1.of_block (hk m (h1.ne_cells hb)), ⟨fun k v hv => by
    obtain ⟨A, c, l, e1, e2, e3⟩ := h2.hit k v hv
    exact ⟨A, c, l, e1, e2.of_block fun b hb' => hk b (by rintro rfl; exact e2.1.ne_var hb hT hb'), e3⟩, h2.miss⟩, r⟩
theorem UI.of_var {A : Option Addr} {c : Nat} {us : List Wr} (h : UI S w A c us) (hb : Blk w g T cs) (hT : 5 ≠ T) (hT2 : 73 ≠ T) (hk : ∀ b, b ≠ g → w'.heap[b]? = w.heap[b]?) : UI S w' A c us := by
  obtain ⟨L, h1, h2, h3, h4⟩ := h
  exact ⟨L, h1, h2.of_block fun b hb' => hk b (by rintro rfl; exact h2.ne_var hb hT2 hb'), h3, fun p hp => (h4 p hp).of_block fun b hb' => hk b (by rintro rfl; exact (h4 p hp).1.ne_var hb hT hb')⟩
set_option maxRecDepth 20000 in
set_option maxHeartbeats 2000000 in
theorem diskBurn {D : DSt} {mf ms : Nat} {A : Option Addr} {c : Nat} (h : DR S w g mf ms A c D) : Calls Tryd.prog 40 #[.pointer (some ⟨g, 0, none⟩)] w fun e w' => e = .returned (.bool (burnD D).down) ∧ DR S w' g mf ms A c (burnD D) ∧ Mods (fun b => b = g) w w' := by
  have H := Lib.hid h
  obtain ⟨h1, h2, h3, h4, h5, h6, h7, h8⟩ := h
  have c4 := h1.cell 4 rfl
  have c5 := h1.cell 5 rfl
  have f4 := h1.free 4
  have f5 := h1.free 5
  have hf := h7.2.1
  by_cases hp : 0 < D.fuse
  · have hb : burnD D = { D with fuse := D.fuse - 1, down := decide (D.fuse - 1 = 0) } := by unfold burnD; rw [if_pos hp]
    have HF : Hid (DR S ((w.setCell ⟨g, 4, none⟩ (.int .i64 (D.fuse - 1))).setCell ⟨g, 5, none⟩ (.bool (decide (D.fuse - 1 = 0)))) g mf ms A c (burnD D) ∧ Mods (fun b => b = g) w ((w.setCell ⟨g, 4, none⟩ (.int .i64 (D.fuse - 1))).setCell ⟨g, 5, none⟩ (.bool (decide (D.fuse - 1 = 0))))) := Lib.hid (by
      have hk : ∀ b, b ≠ g → ((w.setCell ⟨g, 4, none⟩ (.int .i64 (D.fuse - 1))).setCell ⟨g, 5, none⟩ (.bool (decide (D.fuse - 1 = 0)))).heap[b]? = w.heap[b]? := fun b hb => by
        rw [Below.heap_setCell _ _ _ b hb, Below.heap_setCell _ _ _ b hb]
      refine ⟨⟨?_, ?_, ?_, h4, ?_, h6, ?_, by simpa using h8⟩, ((Mods.refl (fun b => b = g) w).setCell ⟨g, 4, none⟩ (.inl rfl) _).setCell ⟨g, 5, none⟩ (.inl rfl) _⟩
      · have := (h1.setCell 4 (.int .i64 (D.fuse - 1))).setCell 5 (.bool (decide (D.fuse - 1 = 0)))
        rw [hb]
        exact this
      · rw [burnD_files]; exact h2.of_var h1 (by decide) hk
      · rw [burnD_sure]; exact h3.of_var h1 (by decide) hk
      · rw [burnD_unsure]; exact h5.of_var h1 (by decide) (by decide) hk
      · rw [hb]; exact ⟨h7.1, ⟨by simp only; omega, by simp only; omega⟩, h7.2.2⟩)
    rw [hb] at HF ⊢
    clear h1 h2 h3 h5 h7 h8 H hb
    generalize D.fuse = fu at *
    by_cases h0 : fu - 1 = 0
    · obtain rfl : fu = 1 := by omega
      go_enter Tryd.func40, Tryd.ntmps40
      go_wp2_with fail
      go_ret
      exact ⟨rfl, HF.out⟩
    · rw [decide_eq_false h0] at HF ⊢
      have h0b : (fu - 1 == 0) = false := by simpa using h0
      go_enter Tryd.func40, Tryd.ntmps40
      go_wp2_with fail
      go_ret
      exact ⟨rfl, HF.out⟩
  · have hb : burnD D = D := by unfold burnD; rw [if_neg hp]
    rw [hb]
    clear h1 h2 h3 h5 h7 h8 hb f4 f5
    go_enter Tryd.func40, Tryd.ntmps40
    go_wp2_with fail
    go_ret
    exact ⟨rfl, H.out, Mods.refl _ _⟩
end
end Go.Proofs.YthdmnajcphaekaaDoor
