/- Contract of package disk's change: the walk to the test of the files' number (under way). -/
import Derived.Test.YthdmnajcphaekaaDoorDiskI
namespace Go.Proofs.YthdmnajcphaekaaDoor
open Go.RowKit

section
variable {S : Nat → Prop} {g : Nat} {w : World} {D : DSt}
/-- A look at a name, with 'is it there'. -/
theorem Told.look2 {m : Nat} {es : List (Nm × Value)} {F : FS} (ht : Told S w es F) (name : Nm) : ∃ A c, RB w A ((fget F name).getD []) ∧ ∀ w', MapAt encStr w' m es → (Instr.lookup 67 (.map (some m)) (.string ⟨name.toArray⟩) true).run Tryd.prog w' = .ok (.tuple #[.slice A ((fget F name).getD []).length c, .bool (fget F name).isSome]) w' := by
  cases hk : mget es name with
  | none =>
    have h0 := ht.miss name hk
    rw [h0]
    refine ⟨none, 0, RB.nil, fun w' hm => ?_⟩
    have := run_lookup_miss (P := Tryd.prog) strLaw hm Tryd.underlying67 (zero_bytes w') hk true
    simpa using this
  | some v =>
    obtain ⟨A, c, l, rfl, hob, h0⟩ := ht.hit name v hk
    rw [h0]
    refine ⟨A, c, hob.1.rb, fun w' hm => ?_⟩
    have := run_lookup_hit (P := Tryd.prog) strLaw hm Tryd.underlying67 hk true
    simpa using this

set_option maxRecDepth 20000 in
set_option maxHeartbeats 8000000 in
theorem diskChange_many (c : Wr) (X : Option Addr) (cx : Nat) (h : DI S w g D) (hd : D.down = false) (hs : c.name.length ≤ 9223372036854775807) (ho : c.off ≤ 4194304) (hn : nameOk c.name = true) (h0 : fget D.files c.name = none) (hk : c.kind = 1 ∨ c.kind = 2) (hm : 4096 ≤ D.files.length) (hl : D.files.length ≤ 1000000) :
    Calls Tryd.prog 36 #[.pointer (some ⟨g, 0, none⟩), .agg (wrV c X cx)] w fun e w' => e = .returned (.int .i64 7) ∧ Below w.heap.size w w' := by
  have hal : Below w.heap.size w (w.alloc (.cells (wrV c X cx) 73)) := (Below.refl _ _).alloc (Nat.le_refl _) _
  have hx := Blk.new w (wrV c X cx) 73
  have AL := Lib.hid (diskAlive (h.below hal))
  rw [if_neg (by rw [hd]; simp)] at AL
  have NM := Lib.hid (diskNamed ⟨c.name.toArray⟩ (w.alloc (.cells (wrV c X cx) 73)) (by simpa [ByteArray.size] using hs))
  rw [show nameOk (⟨c.name.toArray⟩ : ByteArray).data.toList = true from hn] at NM
  have y1 := hx.cell 1 rfl
  have HX := Lib.hid hx
  obtain ⟨mf, ms, A, cc, hblk, ⟨es, hmap, ht, hF, _⟩, _, _, _, _, _, _⟩ := h
  obtain ⟨Ao, co, _, hlk⟩ := ht.look2 (m := mf) c.name
  rw [h0] at hlk
  have HL := Lib.hid (ht.len hmap.nodup hF)
  have HLK := Lib.hid hlk
  have HB := Lib.hid hblk
  have HMAP := Lib.hid hmap
  clear hblk hmap ht hF hlk hx h0 hd hn
  obtain ⟨kind, name, off, data⟩ := c
  simp only at *
  rcases hk with rfl | rfl
  all_goals
    go_enter Tryd.func36, Tryd.ntmps36
    go_wp2_with fail
    refine AL.out.mono ?_
    rintro e w' ⟨rfl, rfl⟩
    go_wp2_with fail
    refine NM.out.mono ?_
    rintro e w2 ⟨rfl, hb2⟩
    have hx2 := HX.out.kept hb2
    have z0 := hx2.cell 0 rfl
    have z1 := hx2.cell 1 rfl
    have z2 := hx2.cell 2 rfl
    have hB := hal.trans (hb2.mono hal.size)
    have hbl2 := HB.out.kept hB
    have c0 := hbl2.cell 0 rfl
    have hm2 := HMAP.out.below hB
    have hl2 := HLK.out w2 hm2
    have hlen := run_len_map (P := Tryd.prog) hm2 Tryd.underlying67
    rw [HL.out] at hlen
    clear hb2 y1
    go_wp2_with fail
    refine wp_region_planE_gen (by kernel_rfl) [(0, none), (1, none), (2, none), (3, none), (4, none), (5, none), (6, none), (7, none), (8, none), (9, none), (10, none), (11, none)] (by kernel_rfl) (by kernel_rfl) (by decide) ?_
    intro wq hwq
    have hBq : Below w2.heap.size w2 wq := by rw [hwq]; exact (Below.refl _ _).drew
    have hxq := hx2.kept hBq
    have q0 := hxq.cell 0 rfl
    have q1 := hxq.cell 1 rfl
    have hbq := hbl2.kept hBq
    have d0 := hbq.cell 0 rfl
    have hmq := hm2.below hBq
    have hlq := HLK.out wq hmq
    have hlenq := run_len_map (P := Tryd.prog) hmq Tryd.underlying67
    rw [HL.out] at hlenq
    have hB3 := hB.trans (hBq.mono hB.size)
    clear hwq z0 z1 z2 c0 hl2 hlen hx2 hbl2 hm2
    iterate 3 (refine planE_pure (v := ?_) rfl (by rfl) (fun w' => ?_) ?_; rotate_left; (focus (simp only [List.getElem_toArray, List.getElem_cons_succ, List.getElem_cons_zero]; go_simp; first | with_reducible rfl | (simp (disch := omega) only [if_pos, if_neg, Result.andThen_ok]; try with_reducible rfl) | skip)); try simp only [List.getElem_toArray, List.getElem_cons_succ, List.getElem_cons_zero, Act.put, List.setIfInBounds_toArray, List.set_cons_zero, List.set_cons_succ])
    refine planE_cells (v := ?_) [(⟨g, 0, none⟩, .map (some mf))] (by simp; and_intros <;> assumption) rfl (by rfl) (fun w' hw' => ?_) ?_; rotate_left; (focus (simp only [List.forall_mem_cons, List.not_mem_nil, false_imp_iff, implies_true, and_true] at hw'; simp only [List.getElem_toArray, List.getElem_cons_succ, List.getElem_cons_zero]; go_simp; first | with_reducible rfl | (simp (disch := omega) only [if_pos, if_neg, Result.andThen_ok]; try with_reducible rfl) | skip)); try simp only [List.getElem_toArray, List.getElem_cons_succ, List.getElem_cons_zero, Act.put, List.setIfInBounds_toArray, List.set_cons_zero, List.set_cons_succ]
    iterate 1 (refine planE_pure (v := ?_) rfl (by rfl) (fun w' => ?_) ?_; rotate_left; (focus (simp only [List.getElem_toArray, List.getElem_cons_succ, List.getElem_cons_zero]; go_simp; first | with_reducible rfl | (simp (disch := omega) only [if_pos, if_neg, Result.andThen_ok]; try with_reducible rfl) | skip)); try simp only [List.getElem_toArray, List.getElem_cons_succ, List.getElem_cons_zero, Act.put, List.setIfInBounds_toArray, List.set_cons_zero, List.set_cons_succ])
    refine planE_cells (v := ?_) [(⟨w.heap.size, 1, none⟩, .string ⟨name.toArray⟩)] (by simp; and_intros <;> assumption) rfl (by rfl) (fun w' hw' => ?_) ?_; rotate_left; (focus (simp only [List.forall_mem_cons, List.not_mem_nil, false_imp_iff, implies_true, and_true] at hw'; simp only [List.getElem_toArray, List.getElem_cons_succ, List.getElem_cons_zero]; go_simp; first | with_reducible rfl | (simp (disch := omega) only [if_pos, if_neg, Result.andThen_ok]; try with_reducible rfl) | skip)); try simp only [List.getElem_toArray, List.getElem_cons_succ, List.getElem_cons_zero, Act.put, List.setIfInBounds_toArray, List.set_cons_zero, List.set_cons_succ]
    refine planE_read (v := ?_) (fun w' => (Instr.lookup 67 (.map (some mf)) (.string ⟨name.toArray⟩) true).run Tryd.prog w' = .ok (.tuple #[.slice Ao 0 co, .bool false]) w') rfl (by rfl) (fun w' hw' => ?_) (hlq) ?_; rotate_left; (focus (simp only [List.getElem_toArray, List.getElem_cons_succ, List.getElem_cons_zero]; go_simp; first | with_reducible rfl | (simp (disch := omega) only [if_pos, if_neg, Result.andThen_ok]; try with_reducible rfl) | skip)); try simp only [List.getElem_toArray, List.getElem_cons_succ, List.getElem_cons_zero, Act.put, List.setIfInBounds_toArray, List.set_cons_zero, List.set_cons_succ]
    iterate 5 (refine planE_pure (v := ?_) rfl (by rfl) (fun w' => ?_) ?_; rotate_left; (focus (simp only [List.getElem_toArray, List.getElem_cons_succ, List.getElem_cons_zero]; go_simp; first | with_reducible rfl | (simp (disch := omega) only [if_pos, if_neg, Result.andThen_ok]; try with_reducible rfl) | skip)); try simp only [List.getElem_toArray, List.getElem_cons_succ, List.getElem_cons_zero, Act.put, List.setIfInBounds_toArray, List.set_cons_zero, List.set_cons_succ])
    refine planE_end ?_
    go_wp2_with fail
    go_ret
    exact ⟨rfl, hB3⟩
end
end Go.Proofs.YthdmnajcphaekaaDoor
