/- DskR: put together by merge.py of: DiskR, DiskNilC, DiskT. -/
import Derived.Test.YtjgonfnpfbifjaaGreatDoorDiskQ
import Derived.Test.YtjgonfnpfbifjaaGreatDoorIter
import Derived.Test.YtjgonfnpfbifjaaGreatDoorDskE
import Derived.Test.YtjgonfnpfbifjaaGreatDoorVals
/- Contract of package disk's Names. -/
namespace Go.Proofs.YtjgonfnpfbifjaaGreatDoor
open Go.RowKit

section
variable {w : World} {m : Nat} {es : List (Nm × Value)}
/-- How a map's values are read where only its keys are asked. -/
def anyV (_ : Value) : Option (DataW Unit × List MemPlace) := some (.lit (.bool true), [])
theorem MapAt.owns (h : MapAt encStr w m es) (hl : ∀ p ∈ es, p.1.length ≤ 9223372036854775807) (hs : es.length ≤ 1000000) :
    ∃ D0 : DataW Unit, w.ownsMap Tryz.prog 9 anyV m es.length D0 ∧ Maps.size D0 = es.length ∧ (strKeys D0).Perm (es.map Prod.fst) := by
  obtain ⟨L, clock, rfl, hm, hn, hb, hc⟩ := h
  have hrd : ∀ p ∈ L, WideElems.rd Tryz.prog 9 anyV (ent encStr p) = some (.string p.1, .lit (.bool true)) := fun p hp => by
    have hlp := hl (p.1, p.2.1) (List.mem_map.2 ⟨p, hp, rfl⟩)
    unfold WideElems.rd
    have : keyOf Tryz.prog 9 (ent encStr p).key = some (.string p.1) := by
      have := WideMaps.keyOf_string_mk (P := Tryz.prog) (k := 9) Tryz.underlying9 (s := ⟨p.1.toArray⟩) (by unfold maxLen; simpa [ByteArray.size] using hlp)
      exact this
    rw [this]
    rfl
  have hrg : ∀ p ∈ L, WideElems.rg Tryz.prog 9 anyV (ent encStr p) = (.string p.1, .lit (.bool true)) := fun p hp => WideElems.rg_of (hrd p hp)
  refine ⟨_, ⟨_, clock, hm, ⟨by simp only [List.size_toArray, List.length_map] at hs ⊢; unfold maxLen; omega, ⟨fun x hx => ?_, ?_, ?_⟩, fun x hx => ?_⟩, by simp, rfl⟩, ?_, ?_⟩
  · obtain ⟨p, hp, rfl⟩ := List.mem_map.1 hx
    exact hc p hp
  · simpa [ent, Function.comp_def] using hb
  · have := hn
    rw [List.map_map]
    have e : (fun p : Ent Nm => encStr p.1) = encStr ∘ (·.1) := rfl
    show (L.map (fun p => encStr p.1)).Nodup
    rw [e, ← List.map_map]
    exact (List.pairwise_map.2 (hn.imp fun {a b} hne e => hne (encStr_inj e)))
  · obtain ⟨p, hp, rfl⟩ := List.mem_map.1 hx
    exact ⟨_, hrd p hp⟩
  · show ((((L.map (ent encStr)).toArray.toList.map (WideElems.rg Tryz.prog 9 anyV)).foldr DataW.insert []).length) = _
    rw [length_sorted]
    simp
  · show (((((L.map (ent encStr)).toArray.toList.map (WideElems.rg Tryz.prog 9 anyV)).foldr DataW.insert []).map fun p => strOf p.1)).Perm _
    refine ((WideShapes.sorted_perm _).map _).trans ?_
    rw [List.map_map, List.map_map, List.map_map]
    refine List.Perm.of_eq (List.map_congr_left fun p hp => ?_)
    simp only [Function.comp_apply, hrg p hp]
    rfl
end
theorem sorted_of_perm {F : FS} (hr : Rising F) {ss : List Nm} (h : ss.Perm (F.map Prod.fst)) : ss.mergeSort (fun x y => decide (x ≤ y)) = F.map Prod.fst := by
  rw [show (fun x y : Nm => decide (x ≤ y)) = leB from rfl, mergeSort_of_perm h]
  refine List.mergeSort_of_pairwise ?_
  rw [List.pairwise_map]
  exact hr.imp fun {p q} hpq => by simp only [leB, decide_eq_true_eq]; exact List.le_of_lt hpq
/-- The names that a disk tells. -/
def namesD (D : DSt) : List Nm := if D.down = true then [] else D.files.map Prod.fst
def NamesEnd (w : World) (L : List Nm) (e : Ending) (w' : World) : Prop :=
  ∃ A c, e = .returned (.slice A L.length c) ∧ OV w' w.heap.size 9 A c (L.map encStr) ∧ Below w.heap.size w w'
section
variable {S : Nat → Prop} {w w' : World} {g mf ms : Nat} {A : Option Addr} {c : Nat} {D : DSt}
set_option maxRecDepth 20000 in
set_option maxHeartbeats 4000000 in
theorem diskNamesC (h : DI S w g D) (hcnt : D.cnt ≤ 1000000) (hn : ∀ p ∈ D.files, p.1.length ≤ 9223372036854775807) : Calls Tryz.prog 21 #[.pointer (some ⟨g, 0, none⟩)] w (NamesEnd w (namesD D)) := by
  have AL := Lib.hid (diskAlive h)
  obtain ⟨mf, ms, A, c, h⟩ := h
  cases hd : D.down
  · rw [if_neg (by rw [hd]; simp)] at AL
    have hv : namesD D = D.files.map Prod.fst := by unfold namesD; rw [hd]; rfl
    rw [hv]
    obtain ⟨es, hmap, htold, hris, _⟩ := h.fi
    have hperm := htold.keys hmap.nodup hris
    have hlen := htold.len hmap.nodup hris
    have hfl : D.files.length ≤ 1000000 := Nat.le_trans (DSt.files_len D) hcnt
    obtain ⟨D0, hown, hsz, hpk⟩ := hmap.owns (fun p hp => by
      have : p.1 ∈ D.files.map Prod.fst := hperm.subset (List.mem_map.2 ⟨p, hp, rfl⟩)
      obtain ⟨q, hq, e⟩ := List.mem_map.1 this
      rw [← e]
      exact hn q hq) (by omega)
    have CK := Lib.hid (callsIn_wide.1 (Tryz.maps_Keys_46 (some mf) w))
    have CS := Lib.hid (callsIn_wide.1 (Tryz.slices_Sorted_keys_45_46 mf es.length D0 anyV w hown (by rw [hsz]; unfold maxLen; omega) (by rw [hsz]; omega)))
    have c0 := h.blk.cell 0 rfl
    have HS : Hid (∀ ss : List Nm, ss.Perm (strKeys D0) → ss.mergeSort (fun x y => decide (x ≤ y)) = D.files.map Prod.fst) := Lib.hid fun ss hss => sorted_of_perm hris ((hss.trans hpk).trans hperm)
    have hal : Below w.heap.size w (w.alloc (.cells #[.map (some mf)] 50)) := (Below.refl _ _).alloc (Nat.le_refl _) _
    have HAL := Lib.hid hal
    clear h hmap htold hris hperm hlen hown hsz hpk hd hv hal
    go_enter Tryz.func21, Tryz.ntmps21
    go_wp2_with fail
    refine AL.out.mono ?_
    rintro e w1 ⟨rfl, rfl⟩
    go_wp2_with fail
    refine CK.out.mono ?_
    rintro e w2 ⟨rfl, rfl⟩
    go_wp2_with fail
    refine CS.out.mono ?_
    rintro e w3 ⟨v, ss, rfl, hss, hrow, hnil, hb⟩
    rw [HS.out ss hss] at hrow
    have hl : ss.length = (D.files.map Prod.fst).length := by rw [← HS.out ss hss, List.length_mergeSort]
    rw [hl] at hrow
    have HF : Hid (NamesEnd w (D.files.map Prod.fst) (.returned v) w3) := Lib.hid (by
      have hrow2 : w3.ownsRow (w.alloc (.cells #[.map (some mf)] 50)).heap.size 9 1 v ((D.files.map Prod.fst).map encStr).length ((D.files.map Prod.fst).map encStr) := by rw [List.length_map]; exact hrow
      obtain ⟨A', c', hv', hov⟩ := OV.of_own hrow2
      subst hv'
      refine ⟨A', c', by rw [List.length_map], ?_, HAL.out.trans (hb.mono HAL.out.size)⟩
      exact hov.base_le HAL.out.size)
    clear AL CK CS hrow hnil hb hss hl c0 HS HAL
    go_wp2_with fail
    go_ret
    exact HF.out
  · rw [if_pos hd] at AL
    have hv : namesD D = [] := by unfold namesD; rw [if_pos hd]
    rw [hv]
    clear h hd hv
    go_enter Tryz.func21, Tryz.ntmps21
    go_wp2_with fail
    refine AL.out.mono ?_
    rintro e w1 ⟨rfl, rfl⟩
    go_wp2_with fail
    go_ret
    exact ⟨none, 0, rfl, OV.nil _ _ _, Below.refl _ _⟩
end
end Go.Proofs.YtjgonfnpfbifjaaGreatDoor
/- The nil disk: every call of it. -/
namespace Go.Proofs.YtjgonfnpfbifjaaGreatDoor
open Go.RowKit
section
variable {w : World}
set_option maxHeartbeats 1000000 in
theorem diskchange_nil (c : Array Value) : Calls Tryz.prog 60 #[.pointer none, .agg c] w fun e w' => e = .returned (.int .i64 1) ∧ Below w.heap.size w w' := by
  go_enter Tryz.func60, Tryz.ntmps60
  go_wp2_with fail
  refine (diskAlive_nil (w := _)).mono ?_
  rintro e w' ⟨rfl, rfl⟩
  go_wp2_with fail
  go_ret
  exact ⟨rfl, (Below.refl _ _).alloc (Nat.le_refl _) _⟩
set_option maxHeartbeats 1000000 in
theorem diskPut_nil (s : ByteArray) (n : Int) (A : Option Addr) (l c : Nat) : Calls Tryz.prog 33 #[.pointer none, .string s, .int .i64 n, .slice A l c] w fun e w' => e = .returned (.int .i64 1) ∧ Below w.heap.size w w' := by
  go_enter Tryz.func33, Tryz.ntmps33
  go_wp2_with fail
  refine (diskchange_nil _).mono ?_
  rintro e w' ⟨rfl, hb⟩
  go_wp2_with fail
  go_ret
  exact ⟨rfl, hb⟩
set_option maxHeartbeats 1000000 in
theorem diskCut_nil (s : ByteArray) (n : Int) : Calls Tryz.prog 42 #[.pointer none, .string s, .int .i64 n] w fun e w' => e = .returned (.int .i64 1) ∧ Below w.heap.size w w' := by
  go_enter Tryz.func42, Tryz.ntmps42
  go_wp2_with fail
  refine (diskchange_nil _).mono ?_
  rintro e w' ⟨rfl, hb⟩
  go_wp2_with fail
  go_ret
  exact ⟨rfl, hb⟩
set_option maxHeartbeats 1000000 in
theorem diskRemove_nil (s : ByteArray) : Calls Tryz.prog 43 #[.pointer none, .string s] w fun e w' => e = .returned (.int .i64 1) ∧ Below w.heap.size w w' := by
  go_enter Tryz.func43, Tryz.ntmps43
  go_wp2_with fail
  refine (diskchange_nil _).mono ?_
  rintro e w' ⟨rfl, hb⟩
  go_wp2_with fail
  go_ret
  exact ⟨rfl, hb⟩
set_option maxHeartbeats 1000000 in
theorem diskSync_nil : Calls Tryz.prog 35 #[.pointer none] w fun e w' => e = .returned (.int .i64 1) ∧ w = w' := by
  go_enter Tryz.func35, Tryz.ntmps35
  go_wp2_with fail
  refine (diskAlive_nil).mono ?_
  rintro e w' ⟨rfl, rfl⟩
  go_wp2_with fail
  go_ret
  exact ⟨rfl, rfl⟩
set_option maxHeartbeats 1000000 in
theorem diskRead_nil (s : ByteArray) : Calls Tryz.prog 52 #[.pointer none, .string s] w fun e w' => e = .returned (.tuple #[.slice none 0 0, .int .i64 1]) ∧ w = w' := by
  go_enter Tryz.func52, Tryz.ntmps52
  go_wp2_with fail
  refine (diskAlive_nil).mono ?_
  rintro e w' ⟨rfl, rfl⟩
  go_wp2_with fail
  go_ret2
  exact ⟨rfl, rfl⟩
set_option maxHeartbeats 1000000 in
theorem diskNames_nil : Calls Tryz.prog 21 #[.pointer none] w fun e w' => e = .returned (.slice none 0 0) ∧ w = w' := by
  go_enter Tryz.func21, Tryz.ntmps21
  go_wp2_with fail
  refine (diskAlive_nil).mono ?_
  rintro e w' ⟨rfl, rfl⟩
  go_wp2_with fail
  go_ret
  exact ⟨rfl, rfl⟩
set_option maxHeartbeats 1000000 in
theorem diskDown_nil : Calls Tryz.prog 20 #[.pointer none] w fun e w' => e = .returned (.bool true) ∧ w = w' := by
  go_enter Tryz.func20, Tryz.ntmps20
  go_wp2_with fail
  go_ret
  exact ⟨rfl, rfl⟩
set_option maxHeartbeats 1000000 in
theorem diskFall_nil (u n : Int) : Calls Tryz.prog 12 #[.pointer none, .int .u64 u, .int .i64 n] w fun e w' => e = .returned (.int .i64 1) ∧ w = w' := by
  go_enter Tryz.func12, Tryz.ntmps12
  go_wp2_with fail
  go_ret
  exact ⟨rfl, rfl⟩
end
end Go.Proofs.YtjgonfnpfbifjaaGreatDoor
/- The law's answers (layer 4); the walk of DiskNil. -/
namespace Go.Proofs.YtjgonfnpfbifjaaGreatDoor
open Go.RowKit

theorem ans_change : changeD (dsk0 9) ⟨1, [97], (1 : Int).toNat, [7]⟩ 1 = (0, ⟨[], [⟨1, [97], 1, [7]⟩], 9, 0, false⟩) := by
  have h : refuseD (dsk0 9) ⟨1, [97], 1, [7]⟩ 1 = 0 := by decide
  have := changeD_eq0 (dsk0 9) ⟨1, [97], 1, [7]⟩ 1 h (by decide)
  exact this
theorem ans_read : readE ⟨[], [⟨1, [97], 1, [7]⟩], 9, 0, false⟩ [97] = 0 ∧ readB ⟨[], [⟨1, [97], 1, [7]⟩], 9, 0, false⟩ [97] = [0, 7] := by
  have h : readE ⟨[], [⟨1, [97], 1, [7]⟩], 9, 0, false⟩ [97] = 0 := by decide
  refine ⟨h, ?_⟩
  unfold readB
  rw [if_pos h]
  rfl
theorem rb_one (w : World) (x : UInt8) : RB (w.alloc (.cells #[.int .u8 (x.toNat : Int)] 5)) (some ⟨w.heap.size, 0, none⟩) [x] := RB.one w x rfl
end Go.Proofs.YtjgonfnpfbifjaaGreatDoor
