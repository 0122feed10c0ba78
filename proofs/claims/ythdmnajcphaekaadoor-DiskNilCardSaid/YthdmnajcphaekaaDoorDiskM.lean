/- Contracts of package disk's change (all), Put, Cut, Remove, Room, Fuse, Down, Used. -/
import Derived.Test.YthdmnajcphaekaaDoorDiskL
namespace Go.Proofs.YthdmnajcphaekaaDoor
open Go.RowKit

section
variable {S : Nat → Prop} {w w' : World} {g mf ms : Nat} {A : Option Addr} {c : Nat} {D : DSt}
theorem diskChange (kind : Int) (name : Nm) (off : Int) (data : List UInt8) (Y : Option Addr) (cy : Nat) (h : DI S w g D) (hY : RB w Y data) (hYM : 0 < data.length → ∀ b, Y.map (·.block) = some b → ¬ S b) (hcnt : D.cnt ≤ 1000000) (hs : name.length ≤ 9223372036854775807) (ho : -9223372036854775808 ≤ off ∧ off ≤ 9223372036854775807) (hdl : data.length ≤ 140737488355328) (hk : kind = 1 ∨ kind = 2 ∨ kind = 3) (hdat : kind ≠ 1 → data = []) :
    Calls Tryd.prog 36 #[.pointer (some ⟨g, 0, none⟩), .agg #[.int .i64 kind, .string ⟨name.toArray⟩, .int .i64 off, .slice Y data.length cy]] w (PDone S w g (changeD D ⟨kind, name, off.toNat, data⟩ off).2 (.int .i64 (changeD D ⟨kind, name, off.toNat, data⟩ off).1)) := by
  obtain ⟨mf, ms, A, c, hr⟩ := h
  have h : DI S w g D := ⟨mf, ms, A, c, hr⟩
  cases hd : D.down
  · by_cases hb : nameOk name = false ∨ off < 0 ∨ 4194304 < off
    · refine (diskChange_bad ⟨kind, name, off.toNat, data⟩ off Y cy h hd hs ho hb).mono ?_
      rintro e w' ⟨rfl, hb'⟩
      rw [changeD_err _ _ _ (refuse_bad hd hb) (by decide)]
      exact hr.same hb' _
    · have hn : nameOk name = true := by
        cases hn : nameOk name
        · exact absurd (.inl hn) hb
        · rfl
      obtain ⟨on, rfl⟩ : ∃ on : Nat, off = (on : Int) := ⟨off.toNat, by omega⟩
      exact diskChange_good kind name on data Y cy hr hY hYM hcnt hd hs (by omega) hdl hk hdat hn
  · refine (diskChange_down ⟨kind, name, off.toNat, data⟩ off Y cy h hd).mono ?_
    rintro e w' ⟨rfl, hb⟩
    rw [changeD_err _ _ _ (refuse_down hd) (by decide)]
    exact hr.same hb _
set_option maxHeartbeats 1000000 in
theorem diskPutC (name : Nm) (off : Int) (data : List UInt8) (Y : Option Addr) (cy : Nat) (h : DI S w g D) (hY : RB w Y data) (hYM : 0 < data.length → ∀ b, Y.map (·.block) = some b → ¬ S b) (hcnt : D.cnt ≤ 1000000) (hs : name.length ≤ 9223372036854775807) (ho : -9223372036854775808 ≤ off ∧ off ≤ 9223372036854775807) (hdl : data.length ≤ 140737488355328) :
    Calls Tryd.prog 15 #[.pointer (some ⟨g, 0, none⟩), .string ⟨name.toArray⟩, .int .i64 off, .slice Y data.length cy] w (PDone S w g (changeD D ⟨1, name, off.toNat, data⟩ off).2 (.int .i64 (changeD D ⟨1, name, off.toNat, data⟩ off).1)) := by
  have C := Lib.hid (diskChange 1 name off data Y cy h hY hYM hcnt hs ho hdl (.inl rfl) (fun h => absurd rfl h))
  clear h hY hYM
  go_enter Tryd.func15, Tryd.ntmps15
  go_wp2_with fail
  with_reducible refine C.out.mono ?_
  rintro e w' ⟨rfl, h⟩
  go_wp2_with fail
  go_ret
  exact ⟨rfl, h⟩
set_option maxHeartbeats 1000000 in
theorem diskCutC (name : Nm) (off : Int) (h : DI S w g D) (hcnt : D.cnt ≤ 1000000) (hs : name.length ≤ 9223372036854775807) (ho : -9223372036854775808 ≤ off ∧ off ≤ 9223372036854775807) :
    Calls Tryd.prog 16 #[.pointer (some ⟨g, 0, none⟩), .string ⟨name.toArray⟩, .int .i64 off] w (PDone S w g (changeD D ⟨2, name, off.toNat, []⟩ off).2 (.int .i64 (changeD D ⟨2, name, off.toNat, []⟩ off).1)) := by
  have C := Lib.hid (diskChange 2 name off [] none 0 h RB.nil (fun h => absurd h (by simp)) hcnt hs ho (by simp) (.inr (.inl rfl)) (fun _ => rfl))
  rw [List.length_nil] at C
  clear h
  go_enter Tryd.func16, Tryd.ntmps16
  go_wp2_with fail
  with_reducible refine C.out.mono ?_
  rintro e w' ⟨rfl, h⟩
  go_wp2_with fail
  go_ret
  exact ⟨rfl, h⟩
set_option maxHeartbeats 1000000 in
theorem diskRemoveC (name : Nm) (h : DI S w g D) (hcnt : D.cnt ≤ 1000000) (hs : name.length ≤ 9223372036854775807) :
    Calls Tryd.prog 17 #[.pointer (some ⟨g, 0, none⟩), .string ⟨name.toArray⟩] w (PDone S w g (changeD D ⟨3, name, 0, []⟩ 0).2 (.int .i64 (changeD D ⟨3, name, 0, []⟩ 0).1)) := by
  have C := Lib.hid (diskChange 3 name 0 [] none 0 h RB.nil (fun h => absurd h (by simp)) hcnt hs (by omega) (by simp) (.inr (.inr rfl)) (fun _ => rfl))
  rw [List.length_nil] at C
  clear h
  go_enter Tryd.func17, Tryd.ntmps17
  go_wp2_with fail
  with_reducible refine C.out.mono ?_
  rintro e w' ⟨rfl, h⟩
  go_wp2_with fail
  go_ret
  exact ⟨rfl, h⟩
/-- A store into the disk's own variable. -/
theorem DR.var {D' : DSt} (h : DR S w g mf ms A c D) (hs : w.heap.size ≤ w'.heap.size) (hk : ∀ b, b ≠ g → w'.heap[b]? = w.heap[b]?) (hb : Blk w' g 69 #[.map (some mf), .map (some ms), .slice A D.unsure.length c, .int .i64 D'.room, .int .i64 D'.fuse, .bool D'.down]) (h1 : D'.sure = D.sure) (h2 : D'.unsure = D.unsure) (hok : D'.ok) : DR S w' g mf ms A c D' :=
  ⟨by rw [h2]; exact hb, by unfold DSt.files; rw [h1, h2]; exact h.fi.of_var h.blk (by decide) hk, by rw [h1]; exact h.si.of_var h.blk (by decide) hk, h.ne, by rw [h2]; exact h.ui.of_var h.blk (by decide) (by decide) hk, h.sg, hok, fun b hb => Nat.lt_of_lt_of_le (h.bnd b hb) hs⟩
/-- What Room and Fuse answer, and what is behind them. -/
def roomD (D : DSt) (n : Int) : Int × DSt := if n < 0 ∨ 4194304 < n then (1, D) else (0, { D with room := n })
def fuseD (D : DSt) (n : Int) : Int × DSt := if n < 0 then (1, D) else (0, { D with fuse := n })
set_option maxHeartbeats 1000000 in
theorem diskRoomC (n : Int) (h : DI S w g D) : Calls Tryd.prog 31 #[.pointer (some ⟨g, 0, none⟩), .int .i64 n] w (PDone S w g (roomD D n).2 (.int .i64 (roomD D n).1)) := by
  obtain ⟨mf, ms, A, c, hr⟩ := h
  by_cases hb : n < 0 ∨ 4194304 < n
  · have hv : roomD D n = (1, D) := by unfold roomD; rw [if_pos hb]
    rw [hv]
    have HF := Lib.hid (hr.same (Below.refl _ _) (.int .i64 1))
    clear hr hv
    rcases hb with hb | hb
    all_goals
      go_enter Tryd.func31, Tryd.ntmps31
      go_wp2_with fail
      go_ret
      exact HF.out
  · have hv : roomD D n = (0, { D with room := n }) := by unfold roomD; rw [if_neg hb]
    rw [hv]
    have c3 := hr.blk.cell 3 rfl
    have f3 := hr.blk.free 3
    have HF : Hid (PDone S w g { D with room := n } (.int .i64 0) (.returned (.int .i64 0)) (w.setCell ⟨g, 3, none⟩ (.int .i64 n))) := Lib.hid
      ⟨rfl, (hr.var (w' := w.setCell ⟨g, 3, none⟩ (.int .i64 n)) (D' := { D with room := n }) (by simp) (fun b hb => Below.heap_setCell _ _ _ b hb) (hr.blk.setCell 3 (.int .i64 n)) rfl rfl ⟨by simp only; omega, hr.ok.2.1, hr.ok.2.2⟩).sx (by simp) hr.bnd, (Mods.refl S w).setCell _ (.inl hr.sg) _⟩
    have hb1 : 0 ≤ n := by omega
    have hb2 : n ≤ 4194304 := by omega
    clear hr hv hb
    go_enter Tryd.func31, Tryd.ntmps31
    go_wp2_with fail
    go_ret
    exact HF.out
set_option maxHeartbeats 1000000 in
theorem diskFuseC (n : Int) (hn : n ≤ 9223372036854775807) (h : DI S w g D) : Calls Tryd.prog 32 #[.pointer (some ⟨g, 0, none⟩), .int .i64 n] w (PDone S w g (fuseD D n).2 (.int .i64 (fuseD D n).1)) := by
  obtain ⟨mf, ms, A, c, hr⟩ := h
  by_cases hb : n < 0
  · have hv : fuseD D n = (1, D) := by unfold fuseD; rw [if_pos hb]
    rw [hv]
    have HF := Lib.hid (hr.same (Below.refl _ _) (.int .i64 1))
    clear hr hv
    go_enter Tryd.func32, Tryd.ntmps32
    go_wp2_with fail
    go_ret
    exact HF.out
  · have hv : fuseD D n = (0, { D with fuse := n }) := by unfold fuseD; rw [if_neg hb]
    rw [hv]
    have c4 := hr.blk.cell 4 rfl
    have f4 := hr.blk.free 4
    have HF : Hid (PDone S w g { D with fuse := n } (.int .i64 0) (.returned (.int .i64 0)) (w.setCell ⟨g, 4, none⟩ (.int .i64 n))) := Lib.hid
      ⟨rfl, (hr.var (w' := w.setCell ⟨g, 4, none⟩ (.int .i64 n)) (D' := { D with fuse := n }) (by simp) (fun b hb => Below.heap_setCell _ _ _ b hb) (hr.blk.setCell 4 (.int .i64 n)) rfl rfl ⟨hr.ok.1, ⟨by simp only; omega, hn⟩, hr.ok.2.2⟩).sx (by simp) hr.bnd, (Mods.refl S w).setCell _ (.inl hr.sg) _⟩
    have hb1 : 0 ≤ n := by omega
    clear hr hv hb
    go_enter Tryd.func32, Tryd.ntmps32
    go_wp2_with fail
    go_ret
    exact HF.out
set_option maxHeartbeats 1000000 in
theorem diskDownC (h : DI S w g D) : Calls Tryd.prog 18 #[.pointer (some ⟨g, 0, none⟩)] w fun e w' => e = .returned (.bool D.down) ∧ w = w' := by
  obtain ⟨mf, ms, A, c, hr⟩ := h
  have c5 := hr.blk.cell 5 rfl
  clear hr
  go_enter Tryd.func18, Tryd.ntmps18
  go_wp2_with fail
  go_ret
  exact ⟨rfl, rfl⟩
set_option maxHeartbeats 1000000 in
theorem diskUsedC (h : DI S w g D) (hcnt : D.cnt ≤ 1000000) : Calls Tryd.prog 13 #[.pointer (some ⟨g, 0, none⟩)] w fun e w' => e = .returned (.int .i64 (fsize D.files : Int)) ∧ Below w.heap.size w w' := by
  obtain ⟨mf, ms, A, c, hr⟩ := h
  have c0 := hr.blk.cell 0 rfl
  have SZ := Lib.hid (diskSize w hr.fi (Nat.le_trans (DSt.size_le hr.ok hr.ris.1 hcnt) (by decide)))
  clear hr
  go_enter Tryd.func13, Tryd.ntmps13
  go_wp2_with fail
  refine SZ.out.mono ?_
  rintro e w2 ⟨rfl, hb⟩
  go_wp2_with fail
  go_ret
  exact ⟨rfl, hb⟩
end
end Go.Proofs.YthdmnajcphaekaaDoor
