/- ScrC: put together by merge.py of: ScrA, ScrC. -/
import Derived.Test.YtcinohmhhglpjaaDoorScrB
import Derived.Test.YtcinohmhhglpjaaDoorScrNum
import Derived.Test.YtcinohmhhglpjaaDoorScrI
/- Contracts of package script: the word of a writer. -/
namespace Go.Proofs.YtcinohmhhglpjaaDoor
open Go.RowKit

abbrev Tw : TypeId := 73

set_option maxRecDepth 20000 in
set_option maxHeartbeats 2000000 in
theorem wordW (B b : Nat) (l s : List UInt8) (w : World) (h : WB w Tw B b l) (hlen : l.length + s.length + 1 ≤ 140737488355328) (hBw : B ≤ w.heap.size) :
    Calls Tryd.prog 28 #[.pointer (some ⟨b, 0, none⟩), .string ⟨s.toArray⟩] w fun e w' => e = .returned (.tuple #[]) ∧ WB w' Tw B b (addw l s) ∧ Kp B b w w' := by
  by_cases hl : l = []
  · subst hl
    rw [addw_nil]
    go_enter Tryd.func28, Tryd.ntmps28
    go_wp2_with (go_at_call 24; refine (lenW Tw B b [] _ h).mono ?_)
    rintro e w1 ⟨rfl, rfl⟩
    go_wp2_with (go_at_call 22; refine (writeStringW Tw bt_writer B b [] s _ h (by simp at hlen ⊢; omega) hBw).mono ?_)
    rintro e w2 ⟨rfl, h2, k2⟩
    go_wp2_with fail
    go_end0
    exact ⟨rfl, h2, k2⟩
  · rw [addw_ne hl]
    have hpos : 0 < l.length := List.length_pos_iff.2 hl
    go_enter Tryd.func28, Tryd.ntmps28
    go_wp2_with (go_at_call 24; refine (lenW Tw B b l _ h).mono ?_)
    rintro e w1 ⟨rfl, rfl⟩
    go_wp2_with (go_at_call 59; refine (writeByteW Tw bt_writer B b l 32 _ _ h (by omega) hBw rfl).mono ?_)
    rintro e w2 ⟨rfl, h2, k2⟩
    go_wp2_with (go_at_call 22; refine (writeStringW Tw bt_writer B b (l ++ [32]) s _ h2 (by simp; omega) (by have := k2.size; omega)).mono ?_)
    rintro e w3 ⟨rfl, h3, k3⟩
    go_wp2_with fail
    go_end0
    refine ⟨rfl, ?_, k2.trans k3⟩
    simpa using h3
end Go.Proofs.YtcinohmhhglpjaaDoor
/- Contracts of package script's writer: ints, nums. -/
namespace Go.Proofs.YtcinohmhhglpjaaDoor
open Go.RowKit

/-- The words of the kinds, as they lie in memory. -/
def wordsV : Array Value := ((List.range 19).map fun n => Value.string ⟨(kindWord n).toArray⟩).toArray
/-- What the program's variables hold, and will while what lies below B stays. -/
structure Env (B : Nat) (w : World) : Prop where
  pow : ∀ w', Below B w w' → Pow w'
  words : ∀ w', Below B w w' → w'.var? Tryd.prog "scupper/script.words" = some wordsV
section
variable {B : Nat} {w w' : World}
theorem Env.here (h : Env B w) : Pow w := h.pow w (Below.refl _ _)
theorem Env.below (h : Env B w) (hb : Below B w w') : Env B w' := ⟨fun v hv => h.pow v (hb.trans hv), fun v hv => h.words v (hb.trans hv)⟩
theorem Env.up {B' : Nat} (h : Env B w) (hB : B ≤ B') : Env B' w := ⟨fun v hv => h.pow v (hv.mono hB), fun v hv => h.words v (hv.mono hB)⟩
theorem Env.kp {b : Nat} (h : Env B w) (k : Kp B b w w') : Env B w' := h.below k.below
theorem Env.alloc (h : Env B w) (hB : B ≤ w.heap.size) (o : Obj) : Env B (w.alloc o) := h.below ((Below.refl _ _).alloc hB o)
end

set_option maxRecDepth 20000 in
set_option maxHeartbeats 2000000 in
theorem intsW (B b : Nat) (l : List UInt8) (g c : Nat) (zs : List Int) (w : World) (h : WB w Tw B b l) (hg : Blk w g 2 (zs.map (Value.int .i64)).toArray) (hz : ∀ z ∈ zs, -9223372036854775808 ≤ z ∧ z ≤ 9223372036854775807) (hn : zs.length ≤ 100) (hlen : l.length ≤ 1000000) (hE : Env B w) (hBw : B ≤ w.heap.size) :
    Calls Tryd.prog 29 #[.pointer (some ⟨b, 0, none⟩), .slice (some ⟨g, 0, none⟩) zs.length c] w fun e w' => e = .returned (.tuple #[]) ∧ WB w' Tw B b (addws l (zs.map Lib.itoa)) ∧ Kp B b w w' := by
  have hgb : g ≠ b := by
    intro e
    obtain ⟨_, p, A, c', hb, _⟩ := h.form
    subst e
    have hb' : w.heap[g]? = _ := hb
    rw [show w.heap[g]? = _ from hg] at hb'
    injection hb' with hb'
    injection hb' with _ ht
    exact absurd ht (by decide)
  have hlk : ∀ k, (addws l ((zs.take k).map Lib.itoa)).length ≤ 1003000 := fun k => by
    have := addws_len (k := 21) ((zs.take k).map Lib.itoa) l (by
      intro s hs
      obtain ⟨z, hz', rfl⟩ := List.mem_map.1 hs
      have := hz z (List.mem_of_mem_take hz')
      exact itoa_len this.1 this.2)
    simp only [List.length_map, List.length_take] at this
    omega
  have HG := Lib.hid hg
  have HZ := Lib.hid hz
  have HL := Lib.hid hlk
  have HE := Lib.hid hE
  clear hg hz hlk hE
  go_enter Tryd.func29, Tryd.ntmps29
  go_wp2_with fail
  go_loopw [8] (fun i wr => ∃ k : Nat, k ≤ zs.length ∧ i = .int .i64 (k : Int) ∧ Hid (WB wr Tw B b (addws l ((zs.take k).map Lib.itoa))) ∧ Hid (Kp B b w wr)) (fun i _ => zs.length - (intOf i).toNat)
  case atStart => exact ⟨0, Nat.zero_le _, rfl, Lib.hid (by simpa [addws] using h), Lib.hid (.refl _ _ _)⟩
  case round =>
    obtain ⟨k, hk, rfl, hW, hK⟩ := hrel
    clear h
    have hs := hK.out.size
    by_cases hlt : k < zs.length
    · have hgk := HG.out.kp hK.out (by decide) hgb
      have c1 := hgk.cell k (v := .int .i64 zs[k]) (by simp [hlt])
      have hzk := HZ.out zs[k] (List.getElem_mem hlt)
      have hlk := HL.out k
      have HN : Hid (addws l ((zs.take (k + 1)).map Lib.itoa) = addw (addws l ((zs.take k).map Lib.itoa)) (Lib.itoa zs[k])) := Lib.hid (by rw [List.take_succ_eq_append_getElem hlt, List.map_append, List.map_cons, List.map_nil, addws_snoc])
      have hil := itoa_len hzk.1 hzk.2
      generalize zs[k] = z at *
      generalize addws l ((zs.take k).map Lib.itoa) = lk at *
      go_wp2_with (first
        | (go_at_call 60; refine (fmtInt z hzk.1 hzk.2 _ (HE.out.kp hK.out).here).mono ?_))
      rintro e w1 ⟨rfl, hb1⟩
      have hs1 := hb1.size
      go_wp2_with (first
        | (go_at_call 28; refine (wordW B b lk (Lib.itoa z) _ (hW.out.below hb1) (by omega) (by omega)).mono ?_))
      rintro e w2 ⟨rfl, h2, k2⟩
      go_wp2_with fail
      go_roundw
      case rel => exact ⟨k + 1, by omega, by go_num, Lib.hid (by rw [HN.out]; exact h2), Lib.hid ((hK.out.trans (.of_below hb1 (by omega))).trans k2)⟩
      case measure => simp [intOf]; omega
    · obtain rfl : k = zs.length := by omega
      go_wp2_with fail
      go_end0
      exact ⟨rfl, by have := hW.out; rwa [List.take_of_length_le (Nat.le_refl _)] at this, hK.out⟩

set_option maxRecDepth 20000 in
set_option maxHeartbeats 2000000 in
theorem numsW (B b : Nat) (l : List UInt8) (g c : Nat) (zs : List Int) (w : World) (h : WB w Tw B b l) (hg : Blk w g 31 (zs.map (Value.int .u64)).toArray) (hz : ∀ z ∈ zs, 0 ≤ z ∧ z ≤ 18446744073709551615) (hn : zs.length ≤ 100) (hlen : l.length ≤ 1000000) (hE : Env B w) (hBw : B ≤ w.heap.size) :
    Calls Tryd.prog 30 #[.pointer (some ⟨b, 0, none⟩), .slice (some ⟨g, 0, none⟩) zs.length c] w fun e w' => e = .returned (.tuple #[]) ∧ WB w' Tw B b (addws l (zs.map udec)) ∧ Kp B b w w' := by
  have hgb : g ≠ b := by
    intro e
    obtain ⟨_, p, A, c', hb, _⟩ := h.form
    subst e
    have hb' : w.heap[g]? = _ := hb
    rw [show w.heap[g]? = _ from hg] at hb'
    injection hb' with hb'
    injection hb' with _ ht
    exact absurd ht (by decide)
  have hlk : ∀ k, (addws l ((zs.take k).map udec)).length ≤ 1003000 := fun k => by
    have := addws_len (k := 21) ((zs.take k).map udec) l (by
      intro s hs
      obtain ⟨z, hz', rfl⟩ := List.mem_map.1 hs
      have := hz z (List.mem_of_mem_take hz')
      have := udec_len this.2
      omega)
    simp only [List.length_map, List.length_take] at this
    omega
  have HG := Lib.hid hg
  have HZ := Lib.hid hz
  have HL := Lib.hid hlk
  have HE := Lib.hid hE
  clear hg hz hlk hE
  go_enter Tryd.func30, Tryd.ntmps30
  go_wp2_with fail
  go_loopw [8] (fun i wr => ∃ k : Nat, k ≤ zs.length ∧ i = .int .i64 (k : Int) ∧ Hid (WB wr Tw B b (addws l ((zs.take k).map udec))) ∧ Hid (Kp B b w wr)) (fun i _ => zs.length - (intOf i).toNat)
  case atStart => exact ⟨0, Nat.zero_le _, rfl, Lib.hid (by simpa [addws] using h), Lib.hid (.refl _ _ _)⟩
  case round =>
    obtain ⟨k, hk, rfl, hW, hK⟩ := hrel
    clear h
    have hs := hK.out.size
    by_cases hlt : k < zs.length
    · have hgk := HG.out.kp hK.out (by decide) hgb
      have c1 := hgk.cell k (v := .int .u64 zs[k]) (by simp [hlt])
      have hzk := HZ.out zs[k] (List.getElem_mem hlt)
      have hlk := HL.out k
      have HN : Hid (addws l ((zs.take (k + 1)).map udec) = addw (addws l ((zs.take k).map udec)) (udec zs[k])) := Lib.hid (by rw [List.take_succ_eq_append_getElem hlt, List.map_append, List.map_cons, List.map_nil, addws_snoc])
      have hil := udec_len hzk.2
      generalize zs[k] = z at *
      generalize addws l ((zs.take k).map udec) = lk at *
      go_wp2_with (first
        | (go_at_call 61; refine (fmtUint z hzk.1 hzk.2 _ (HE.out.kp hK.out).here).mono ?_))
      rintro e w1 ⟨rfl, hb1⟩
      have hs1 := hb1.size
      go_wp2_with (first
        | (go_at_call 28; refine (wordW B b lk (udec z) _ (hW.out.below hb1) (by omega) (by omega)).mono ?_))
      rintro e w2 ⟨rfl, h2, k2⟩
      go_wp2_with fail
      go_roundw
      case rel => exact ⟨k + 1, by omega, by go_num, Lib.hid (by rw [HN.out]; exact h2), Lib.hid ((hK.out.trans (.of_below hb1 (by omega))).trans k2)⟩
      case measure => simp [intOf]; omega
    · obtain rfl : k = zs.length := by omega
      go_wp2_with fail
      go_end0
      exact ⟨rfl, by have := hW.out; rwa [List.take_of_length_le (Nat.le_refl _)] at this, hK.out⟩
end Go.Proofs.YtcinohmhhglpjaaDoor
