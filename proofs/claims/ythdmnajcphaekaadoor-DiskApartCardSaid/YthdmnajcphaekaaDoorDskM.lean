/- DskM: put together by merge.py of: DiskM, DiskN, DiskO, DiskP. -/
import Derived.Test.YthdmnajcphaekaaDoorDiskL
import Derived.Test.YthdmnajcphaekaaDoorDskE
import Derived.Test.YthdmnajcphaekaaDoorRowX
/- Contracts of package disk's change (all), Put, Cut, Remove, Room, Fuse, Down, Used. -/
namespace Go.Proofs.YthdmnajcphaekaaDoor
open Go.RowKit

section
variable {S : Nat → Prop} {w w' : World} {g mf ms : Nat} {A : Option Addr} {c : Nat} {D : DSt}
theorem diskChange (kind : Int) (name : Nm) (off : Int) (data : List UInt8) (Y : Option Addr) (cy : Nat) (h : DI S w g D) (hY : RB w Y data) (hYM : 0 < data.length → ∀ b, Y.map (·.block) = some b → ¬ S b) (hcnt : D.cnt ≤ 1000000) (hs : name.length ≤ 9223372036854775807) (ho : -9223372036854775808 ≤ off ∧ off ≤ 9223372036854775807) (hdl : data.length ≤ 140737488355328) (hk : kind = 1 ∨ kind = 2 ∨ kind = 3) (hdat : kind ≠ 1 → data = []) :
    Calls Tryd.prog 36 #[.pointer (some ⟨g, 0, none⟩), .agg #[.int .i64 kind, .string ⟨name.toArray⟩, .int .i64 off, .slice Y data.length cy]] w (PDone S w g (changeD D ⟨kind, name, off.toNat, data⟩ off).2 (.int .i64 (changeD D ⟨kind, name, off.toNat, data⟩ off).1)) := by
  obtain ⟨mf, ms, A, c, hr⟩ := h
  have h : DI S w g D := ⟨mf, ms, A, c, hr⟩
  cases hd : D.down
  · by_cases hb : nameOk name = false ∨ off < 0 ∨ 4194304 < off
    · refine (diskChange_bad ⟨kind, name, off.toNat, data⟩ off Y cy h hd hs ho hb).mono ?_
      rintro e w' ⟨rfl, hb'⟩
      rw [changeD_err _ _ _ (refuse_bad hd hb) (by decide)]
      exact hr.same hb' _
    · have hn : nameOk name = true := by
        cases hn : nameOk name
        · exact absurd (.inl hn) hb
        · rfl
      obtain ⟨on, rfl⟩ : ∃ on : Nat, off = (on : Int) := ⟨off.toNat, by omega⟩
      exact diskChange_good kind name on data Y cy hr hY hYM hcnt hd hs (by omega) hdl hk hdat hn
  · refine (diskChange_down ⟨kind, name, off.toNat, data⟩ off Y cy h hd).mono ?_
    rintro e w' ⟨rfl, hb⟩
    rw [changeD_err _ _ _ (refuse_down hd) (by decide)]
    exact hr.same hb _
set_option maxHeartbeats 1000000 in
theorem diskPutC (name : Nm) (off : Int) (data : List UInt8) (Y : Option Addr) (cy : Nat) (h : DI S w g D) (hY : RB w Y data) (hYM : 0 < data.length → ∀ b, Y.map (·.block) = some b → ¬ S b) (hcnt : D.cnt ≤ 1000000) (hs : name.length ≤ 9223372036854775807) (ho : -9223372036854775808 ≤ off ∧ off ≤ 9223372036854775807) (hdl : data.length ≤ 140737488355328) :
    Calls Tryd.prog 15 #[.pointer (some ⟨g, 0, none⟩), .string ⟨name.toArray⟩, .int .i64 off, .slice Y data.length cy] w (PDone S w g (changeD D ⟨1, name, off.toNat, data⟩ off).2 (.int .i64 (changeD D ⟨1, name, off.toNat, data⟩ off).1)) := by
  have C := Lib.hid (diskChange 1 name off data Y cy h hY hYM hcnt hs ho hdl (.inl rfl) (fun h => absurd rfl h))
  clear h hY hYM
  go_enter Tryd.func15, Tryd.ntmps15
  go_wp2_with fail
  with_reducible refine C.out.mono ?_
  rintro e w' ⟨rfl, h⟩
  go_wp2_with fail
  go_ret
  exact ⟨rfl, h⟩
set_option maxHeartbeats 1000000 in
theorem diskCutC (name : Nm) (off : Int) (h : DI S w g D) (hcnt : D.cnt ≤ 1000000) (hs : name.length ≤ 9223372036854775807) (ho : -9223372036854775808 ≤ off ∧ off ≤ 9223372036854775807) :
    Calls Tryd.prog 16 #[.pointer (some ⟨g, 0, none⟩), .string ⟨name.toArray⟩, .int .i64 off] w (PDone S w g (changeD D ⟨2, name, off.toNat, []⟩ off).2 (.int .i64 (changeD D ⟨2, name, off.toNat, []⟩ off).1)) := by
  have C := Lib.hid (diskChange 2 name off [] none 0 h RB.nil (fun h => absurd h (by simp)) hcnt hs ho (by simp) (.inr (.inl rfl)) (fun _ => rfl))
  rw [List.length_nil] at C
  clear h
  go_enter Tryd.func16, Tryd.ntmps16
  go_wp2_with fail
  with_reducible refine C.out.mono ?_
  rintro e w' ⟨rfl, h⟩
  go_wp2_with fail
  go_ret
  exact ⟨rfl, h⟩
set_option maxHeartbeats 1000000 in
theorem diskRemoveC (name : Nm) (h : DI S w g D) (hcnt : D.cnt ≤ 1000000) (hs : name.length ≤ 9223372036854775807) :
    Calls Tryd.prog 17 #[.pointer (some ⟨g, 0, none⟩), .string ⟨name.toArray⟩] w (PDone S w g (changeD D ⟨3, name, 0, []⟩ 0).2 (.int .i64 (changeD D ⟨3, name, 0, []⟩ 0).1)) := by
  have C := Lib.hid (diskChange 3 name 0 [] none 0 h RB.nil (fun h => absurd h (by simp)) hcnt hs (by omega) (by simp) (.inr (.inr rfl)) (fun _ => rfl))
  rw [List.length_nil] at C
  clear h
  go_enter Tryd.func17, Tryd.ntmps17
  go_wp2_with fail
  with_reducible refine C.out.mono ?_
  rintro e w' ⟨rfl, h⟩
  go_wp2_with fail
  go_ret
  exact ⟨rfl, h⟩
/-- A store into the disk's own variable. -/
theorem DR.var {D' : DSt} (h : DR S w g mf ms A c D) (hs : w.heap.size ≤ w'.heap.size) (hk : ∀ b, b ≠ g → w'.heap[b]? = w.heap[b]?) (hb : Blk w' g 69 #[.map (some mf), .map (some ms), .slice A D.unsure.length c, .int .i64 D'.room, .int .i64 D'.fuse, .bool D'.down]) (h1 : D'.sure = D.sure) (h2 : D'.unsure = D.unsure) (hok : D'.ok) : DR S w' g mf ms A c D' :=
  ⟨by rw [h2]; exact hb, by unfold DSt.files; rw [h1, h2]; exact h.fi.of_var h.blk (by decide) hk, by rw [h1]; exact h.si.of_var h.blk (by decide) hk, h.ne, by rw [h2]; exact h.ui.of_var h.blk (by decide) (by decide) hk, h.sg, hok, fun b hb => Nat.lt_of_lt_of_le (h.bnd b hb) hs⟩
/-- What Room and Fuse answer, and what is behind them. -/
def roomD (D : DSt) (n : Int) : Int × DSt := if n < 0 ∨ 4194304 < n then (1, D) else (0, { D with room := n })
def fuseD (D : DSt) (n : Int) : Int × DSt := if n < 0 then (1, D) else (0, { D with fuse := n })
set_option maxHeartbeats 1000000 in
theorem diskRoomC (n : Int) (h : DI S w g D) : Calls Tryd.prog 31 #[.pointer (some ⟨g, 0, none⟩), .int .i64 n] w (PDone S w g (roomD D n).2 (.int .i64 (roomD D n).1)) := by
  obtain ⟨mf, ms, A, c, hr⟩ := h
  by_cases hb : n < 0 ∨ 4194304 < n
  · have hv : roomD D n = (1, D) := by unfold roomD; rw [if_pos hb]
    rw [hv]
    have HF := Lib.hid (hr.same (Below.refl _ _) (.int .i64 1))
    clear hr hv
    rcases hb with hb | hb
    all_goals
      go_enter Tryd.func31, Tryd.ntmps31
      go_wp2_with fail
      go_ret
      exact HF.out
  · have hv : roomD D n = (0, { D with room := n }) := by unfold roomD; rw [if_neg hb]
    rw [hv]
    have c3 := hr.blk.cell 3 rfl
    have f3 := hr.blk.free 3
    have HF : Hid (PDone S w g { D with room := n } (.int .i64 0) (.returned (.int .i64 0)) (w.setCell ⟨g, 3, none⟩ (.int .i64 n))) := Lib.hid
      ⟨rfl, (hr.var (w' := w.setCell ⟨g, 3, none⟩ (.int .i64 n)) (D' := { D with room := n }) (by simp) (fun b hb => Below.heap_setCell _ _ _ b hb) (hr.blk.setCell 3 (.int .i64 n)) rfl rfl ⟨by simp only; omega, hr.ok.2.1, hr.ok.2.2⟩).sx (by simp) hr.bnd, (Mods.refl S w).setCell _ (.inl hr.sg) _⟩
    have hb1 : 0 ≤ n := by omega
    have hb2 : n ≤ 4194304 := by omega
    clear hr hv hb
    go_enter Tryd.func31, Tryd.ntmps31
    go_wp2_with fail
    go_ret
    exact HF.out
set_option maxHeartbeats 1000000 in
theorem diskFuseC (n : Int) (hn : n ≤ 9223372036854775807) (h : DI S w g D) : Calls Tryd.prog 32 #[.pointer (some ⟨g, 0, none⟩), .int .i64 n] w (PDone S w g (fuseD D n).2 (.int .i64 (fuseD D n).1)) := by
  obtain ⟨mf, ms, A, c, hr⟩ := h
  by_cases hb : n < 0
  · have hv : fuseD D n = (1, D) := by unfold fuseD; rw [if_pos hb]
    rw [hv]
    have HF := Lib.hid (hr.same (Below.refl _ _) (.int .i64 1))
    clear hr hv
    go_enter Tryd.func32, Tryd.ntmps32
    go_wp2_with fail
    go_ret
    exact HF.out
  · have hv : fuseD D n = (0, { D with fuse := n }) := by unfold fuseD; rw [if_neg hb]
    rw [hv]
    have c4 := hr.blk.cell 4 rfl
    have f4 := hr.blk.free 4
    have HF : Hid (PDone S w g { D with fuse := n } (.int .i64 0) (.returned (.int .i64 0)) (w.setCell ⟨g, 4, none⟩ (.int .i64 n))) := Lib.hid
      ⟨rfl, (hr.var (w' := w.setCell ⟨g, 4, none⟩ (.int .i64 n)) (D' := { D with fuse := n }) (by simp) (fun b hb => Below.heap_setCell _ _ _ b hb) (hr.blk.setCell 4 (.int .i64 n)) rfl rfl ⟨hr.ok.1, ⟨by simp only; omega, hn⟩, hr.ok.2.2⟩).sx (by simp) hr.bnd, (Mods.refl S w).setCell _ (.inl hr.sg) _⟩
    have hb1 : 0 ≤ n := by omega
    clear hr hv hb
    go_enter Tryd.func32, Tryd.ntmps32
    go_wp2_with fail
    go_ret
    exact HF.out
set_option maxHeartbeats 1000000 in
theorem diskDownC (h : DI S w g D) : Calls Tryd.prog 18 #[.pointer (some ⟨g, 0, none⟩)] w fun e w' => e = .returned (.bool D.down) ∧ w = w' := by
  obtain ⟨mf, ms, A, c, hr⟩ := h
  have c5 := hr.blk.cell 5 rfl
  clear hr
  go_enter Tryd.func18, Tryd.ntmps18
  go_wp2_with fail
  go_ret
  exact ⟨rfl, rfl⟩
set_option maxHeartbeats 1000000 in
theorem diskUsedC (h : DI S w g D) (hcnt : D.cnt ≤ 1000000) : Calls Tryd.prog 13 #[.pointer (some ⟨g, 0, none⟩)] w fun e w' => e = .returned (.int .i64 (fsize D.files : Int)) ∧ Below w.heap.size w w' := by
  obtain ⟨mf, ms, A, c, hr⟩ := h
  have c0 := hr.blk.cell 0 rfl
  have SZ := Lib.hid (diskSize w hr.fi (Nat.le_trans (DSt.size_le hr.ok hr.ris.1 hcnt) (by decide)))
  clear hr
  go_enter Tryd.func13, Tryd.ntmps13
  go_wp2_with fail
  refine SZ.out.mono ?_
  rintro e w2 ⟨rfl, hb⟩
  go_wp2_with fail
  go_ret
  exact ⟨rfl, hb⟩
end
end Go.Proofs.YthdmnajcphaekaaDoor
/- Contracts of package disk's Sync, Read, Unsure. -/
namespace Go.Proofs.YthdmnajcphaekaaDoor
open Go.RowKit

section
variable {S : Nat → Prop} {w w' : World} {g mf ms : Nat} {A : Option Addr} {c : Nat} {D : DSt}
set_option maxRecDepth 20000 in
set_option maxHeartbeats 4000000 in
theorem diskSyncC (h : DI S w g D) (hcnt : D.cnt ≤ 1000000) : Calls Tryd.prog 20 #[.pointer (some ⟨g, 0, none⟩)] w (PDone S w g (syncD D).2 (.int .i64 (syncD D).1)) := by
  have AL := Lib.hid (diskAlive h)
  obtain ⟨mf, ms, A, c, h⟩ := h
  cases hd : D.down
  · rw [if_neg (by rw [hd]; simp)] at AL
    have HB := Lib.hid (diskBurn h)
    have HH := Lib.hid h
    have hmg := h.sg
    cases hbd : (burnD D).down
    · have hsy : syncD D = (0, { burnD D with sure := D.files, unsure := [] }) := by unfold syncD; rw [hd, hbd]; rfl
      rw [hsy]
      rw [hbd] at HB
      have HBD := Lib.hid hbd
      clear h hsy hbd hd
      go_enter Tryd.func20, Tryd.ntmps20
      go_wp2_with fail
      refine AL.out.mono ?_
      rintro e w1 ⟨rfl, rfl⟩
      go_wp2_with fail
      refine HB.out.mono ?_
      rintro e w2 ⟨rfl, h2, hm2⟩
      have CL := Lib.hid (diskClone w2 h2.fi (fun k l hk => by have := h2.ok.files k l hk; omega))
      have c0 := h2.blk.cell 0 rfl
      have H2 := Lib.hid h2
      clear h2 AL HB
      go_wp2_with fail
      refine CL.out.mono ?_
      rintro e w3 ⟨rfl, hf3, hb3⟩
      have H3 := Lib.hid (H2.out.below hb3)
      have c1 := H3.out.blk.cell 1 rfl
      have c2' := H3.out.blk.cell 2 rfl
      have f1 := H3.out.blk.free 1
      have f2 := H3.out.blk.free 2
      have HFIN : Hid (PDone S w g { burnD D with sure := D.files, unsure := [] } (.int .i64 0) (.returned (.int .i64 0)) ((w3.setCell ⟨g, 1, none⟩ (.map (some w2.heap.size))).setCell ⟨g, 2, none⟩ (.slice none 0 0))) := Lib.hid (by
        have hkb : ∀ b, b ≠ g → ((w3.setCell ⟨g, 1, none⟩ (.map (some w2.heap.size))).setCell ⟨g, 2, none⟩ (.slice none 0 0)).heap[b]? = w3.heap[b]? := fun b hb => by rw [Below.heap_setCell _ _ _ b hb, Below.heap_setCell _ _ _ b hb]
        have hsz3 : ((w3.setCell ⟨g, 1, none⟩ (.map (some w2.heap.size))).setCell ⟨g, 2, none⟩ (.slice none 0 0)).heap.size = w3.heap.size := by simp
        have hbk := (H3.out.blk.setCell 1 (.map (some w2.heap.size))).setCell 2 (.slice none 0 0)
        have hs2 := hm2.size
        have hs3 := hb3.size
        refine ⟨rfl, ⟨mf, w2.heap.size, none, 0, ?_, ?_, ?_, ?_, UI.nil _ _, .inl hmg, ?_, fun b hb => ?_⟩, ((Mods.below (hm2.mono fun b _ hb => by subst hb; exact hmg) hb3).setCell _ (.inl hmg) _).setCell _ (.inl hmg) _⟩
        · exact hbk
        · show FI _ _ _ (List.foldl doF D.files [])
          have := (H3.out.fi.mono (T := Sx S w ((w3.setCell ⟨g, 1, none⟩ (.map (some w2.heap.size))).setCell ⟨g, 2, none⟩ (.slice none 0 0))) fun b _ hb => .inl hb).of_var H3.out.blk (by decide) hkb
          rw [burnD_files] at this
          exact this
        · have := (hf3.mono (T := Sx S w ((w3.setCell ⟨g, 1, none⟩ (.map (some w2.heap.size))).setCell ⟨g, 2, none⟩ (.slice none 0 0))) fun b _ hb => .inr ⟨by have := hb.1; omega, by rw [hsz3]; exact hb.2⟩).of_var H3.out.blk (by decide) hkb
          rw [burnD_files] at this
          exact this
        · have := H2.out.fi.at_
          obtain ⟨es, hm⟩ := this
          have := hm.lt
          omega
        · exact ⟨(burnD_ok HH.out.ok).1, (burnD_ok HH.out.ok).2.1, HH.out.ok.files, by simp⟩
        · rcases hb with hb | hb
          · have := HH.out.bnd b hb; rw [hsz3]; omega
          · exact hb.2)
      clear hf3 hb3 H2 H3 CL hm2 c0 HBD HH
      go_wp2_with fail
      go_ret
      exact HFIN.out
    · have hsy : syncD D = (11, burnD D) := by unfold syncD; rw [hd, hbd]; rfl
      rw [hsy]
      rw [hbd] at HB
      clear h hsy hbd hd
      go_enter Tryd.func20, Tryd.ntmps20
      go_wp2_with fail
      refine AL.out.mono ?_
      rintro e w1 ⟨rfl, rfl⟩
      go_wp2_with fail
      refine HB.out.mono ?_
      rintro e w2 ⟨rfl, h2, hm2⟩
      have HF : Hid (PDone S w g (burnD D) (.int .i64 11) (.returned (.int .i64 11)) w2) := Lib.hid ⟨rfl, h2.sx hm2.size HH.out.bnd, hm2.mono fun b _ hb => by subst hb; exact hmg⟩
      clear h2 hm2 HB AL HH
      go_wp2_with fail
      go_ret
      exact HF.out
  · rw [if_pos hd] at AL
    have hsy : syncD D = (11, D) := by unfold syncD; rw [hd]; rfl
    rw [hsy]
    have HF := Lib.hid (h.same (Below.refl _ _) (.int .i64 11))
    clear h hsy hd
    go_enter Tryd.func20, Tryd.ntmps20
    go_wp2_with fail
    refine AL.out.mono ?_
    rintro e w1 ⟨rfl, rfl⟩
    go_wp2_with fail
    go_ret
    exact HF.out

set_option maxRecDepth 20000 in
set_option maxHeartbeats 4000000 in
theorem diskReadC (name : Nm) (h : DI S w g D) (hn : name.length ≤ 9223372036854775807) : Calls Tryd.prog 19 #[.pointer (some ⟨g, 0, none⟩), .string ⟨name.toArray⟩] w (ReadEnd w D name) := by
  have AL := Lib.hid (diskAlive h)
  obtain ⟨mf, ms, A, c, h⟩ := h
  cases hd : D.down
  · rw [if_neg (by rw [hd]; simp)] at AL
    have NM := Lib.hid (diskNamed ⟨name.toArray⟩ w (by simpa [ByteArray.size] using hn))
    cases hno : nameOk name
    · rw [show nameOk (⟨name.toArray⟩ : ByteArray).data.toList = false from hno] at NM
      have HE : Hid (readE D name = 1) := Lib.hid (by unfold readE; rw [hd, hno]; rfl)
      clear h hd hno
      go_enter Tryd.func19, Tryd.ntmps19
      go_wp2_with fail
      refine AL.out.mono ?_
      rintro e w1 ⟨rfl, rfl⟩
      go_wp2_with fail
      refine NM.out.mono ?_
      rintro e w2 ⟨rfl, hb⟩
      clear AL NM
      go_wp2_with fail
      go_ret2
      exact readEnd_err HE.out (by decide) hb
    · rw [show nameOk (⟨name.toArray⟩ : ByteArray).data.toList = true from hno] at NM
      obtain ⟨es, hmap, ht, _, _⟩ := h.fi
      obtain ⟨Ao, co, hrb, hl⟩ := ht.look2 (m := mf) name
      have HMAP := Lib.hid hmap
      have HL := Lib.hid hl
      have HRB := Lib.hid hrb
      have HBL := Lib.hid h.blk
      have HRE : Hid (∀ b, (fget D.files name).isSome = b → readE D name = if b = true then 0 else 8) := Lib.hid fun b hb => by unfold readE; rw [hd, hno, hb]; rfl
      have hol : ((fget D.files name).getD []).length ≤ 4194304 := by
        cases hg : fget D.files name with
        | none => simp
        | some l => exact h.ok.files _ _ hg
      have HOL : Hid (∃ l, (fget D.files name).getD [] = l) := Lib.hid ⟨_, rfl⟩
      clear h hd hno hmap ht hl hrb
      obtain ⟨old, hold⟩ := HOL.out
      rw [hold] at HL HRB hol
      have HOLD := Lib.hid hold
      clear hold HOL
      cases hse : (fget D.files name).isSome
      · have HE : Hid (readE D name = 8) := Lib.hid (by rw [HRE.out false hse]; rfl)
        rw [hse] at HL
        clear hse HRE
        go_enter Tryd.func19, Tryd.ntmps19
        go_wp2_with fail
        refine AL.out.mono ?_
        rintro e w1 ⟨rfl, rfl⟩
        go_wp2_with fail
        refine NM.out.mono ?_
        rintro e w2 ⟨rfl, hb⟩
        have c0 := (HBL.out.kept hb).cell 0 rfl
        have hlk := HL.out w2 (HMAP.out.below hb)
        clear AL NM
        go_wp2_with fail
        go_ret2
        exact readEnd_err HE.out (by decide) hb
      · have HE : Hid (readE D name = 0) := Lib.hid (by rw [HRE.out true hse]; rfl)
        have HB : Hid (readB D name = old) := Lib.hid (by unfold readB; rw [HE.out, if_pos rfl, HOLD.out])
        rw [hse] at HL
        clear hse HRE
        go_enter Tryd.func19, Tryd.ntmps19
        go_wp2_with fail
        refine AL.out.mono ?_
        rintro e w1 ⟨rfl, rfl⟩
        go_wp2_with fail
        refine NM.out.mono ?_
        rintro e w2 ⟨rfl, hb⟩
        have c0 := (HBL.out.kept hb).cell 0 rfl
        have hlk := HL.out w2 (HMAP.out.below hb)
        have CL := Lib.hid (cloneB' Ao co old w2 (HRB.out.below hb) (by omega))
        clear AL NM
        go_wp2_with fail
        refine CL.out.mono ?_
        rintro e w3 ⟨A', c', rfl, ho, hb3⟩
        have HF : Hid (ReadEnd w D name (.returned (.tuple #[.slice A' old.length c', .int .i64 0])) w3) := Lib.hid ⟨A', c', by rw [HB.out, HE.out], by rw [HB.out]; exact ho.base_le hb.size, hb.trans (hb3.mono hb.size)⟩
        clear CL ho hb3 hb HMAP HL HRB HBL
        go_wp2_with fail
        go_ret2
        exact HF.out
  · rw [if_pos hd] at AL
    have HE : Hid (readE D name = 11) := Lib.hid (by unfold readE; rw [hd]; rfl)
    clear h hd
    go_enter Tryd.func19, Tryd.ntmps19
    go_wp2_with fail
    refine AL.out.mono ?_
    rintro e w1 ⟨rfl, rfl⟩
    go_wp2_with fail
    go_ret2
    exact readEnd_err HE.out (by decide) (Below.refl _ _)
end
end Go.Proofs.YthdmnajcphaekaaDoor
/- Contract of package disk's Unsure. -/
namespace Go.Proofs.YthdmnajcphaekaaDoor
open Go.RowKit

theorem OR.wcells {w : World} {n c k : Nat} {B : Option Addr} {U : List (Wr × Option Addr × Nat)} (h : OR w n 73 4 B c (U.map wrRow)) (hk : k < U.length) : ∃ b, B = some ⟨b, 0, none⟩ ∧ b < w.heap.size ∧ ∀ w' : World, w'.heap[b]? = w.heap[b]? → w'.cell? ⟨b, k * 4, none⟩ = some (.int .i64 U[k].1.kind) ∧ w'.cell? ⟨b, k * 4 + 1, none⟩ = some (.string ⟨U[k].1.name.toArray⟩) ∧ w'.cell? ⟨b, k * 4 + 2, none⟩ = some (.int .i64 (U[k].1.off : Int)) ∧ w'.cell? ⟨b, k * 4 + 3, none⟩ = some (.slice U[k].2.1 U[k].1.data.length U[k].2.2) := by
  obtain ⟨b, rfl, _, hb⟩ := h.head' (by simp; omega)
  refine ⟨b, rfl, hb, fun w' hw => ?_⟩
  have hi : (U.map wrRow)[k]? = some (wrRow U[k]) := by simp [hk]
  have h0 := h.rs.get hi 0 rfl
  have h1 := h.rs.get hi 1 rfl
  have h2 := h.rs.get hi 2 rfl
  have h3 := h.rs.get hi 3 rfl
  rw [Nat.zero_add] at h0 h1 h2 h3
  have e : ∀ o, w'.cell? ⟨b, o, none⟩ = w.cell? ⟨b, o, none⟩ := fun o => World.cell?_of_block (w := w) (a := ⟨b, o, none⟩) hw
  exact ⟨(e _).trans h0, (e _).trans h1, (e _).trans h2, (e _).trans h3⟩
/-- Changes of the call's own. -/
structure UO (n : Nat) (w : World) (A : Option Addr) (c : Nat) (U : List (Wr × Option Addr × Nat)) : Prop where
  row : OR w n 73 4 A c (U.map wrRow)
  dat : ∀ p ∈ U, OB w n p.2.1 p.2.2 p.1.data
theorem UO.below {n c : Nat} {w w' : World} {A : Option Addr} {U : List (Wr × Option Addr × Nat)} (h : UO n w A c U) (hb : Below w.heap.size w w') : UO n w' A c U := ⟨h.row.below hb, fun p hp => (h.dat p hp).below hb⟩
def NewU (w : World) (us : List Wr) (e : Ending) (w' : World) : Prop :=
  ∃ (A : Option Addr) (c : Nat) (U : List (Wr × Option Addr × Nat)), e = .returned (.slice A U.length c) ∧ Hid (U.map Prod.fst = us) ∧ UO w.heap.size w' A c U ∧ Below w.heap.size w w'
section
variable {S : Nat → Prop} {w w' : World} {g mf ms : Nat} {A : Option Addr} {c : Nat} {D : DSt}
set_option maxRecDepth 20000 in
set_option maxHeartbeats 4000000 in
theorem diskUnsureC (h : DI S w g D) (hcnt : D.cnt ≤ 1000000) : Calls Tryd.prog 25 #[.pointer (some ⟨g, 0, none⟩)] w (NewU w D.unsure) := by
  obtain ⟨mf, ms, A, c, h⟩ := h
  obtain ⟨Us, hU1, hU2, _, hU4⟩ := h.ui
  have hul : Us.length ≤ 1000000 := by
    have e1 := congrArg List.length hU1
    rw [List.length_map] at e1
    unfold DSt.cnt at hcnt
    omega
  have hok : ∀ u ∈ D.unsure, u.ok := h.ok.2.2.2
  have c2' := h.blk.cell 2 rfl
  rw [show D.unsure.length = Us.length from by rw [← hU1, List.length_map]] at c2'
  have HU1 := Lib.hid hU1
  have HU2 := Lib.hid hU2
  have HU4 := Lib.hid hU4
  have HOK := Lib.hid hok
  clear h hU1 hU2 hU4 hcnt hok
  go_enter Tryd.func25, Tryd.ntmps25
  go_wp2_with fail
  go_loopw [3, 13] (fun s3 s13 wr => ∃ (k : Nat) (A' : Option Addr) (c' : Nat) (U' : List (Wr × Option Addr × Nat)), k ≤ Us.length ∧ s13 = .int .i64 (k : Int) ∧ s3 = .slice A' U'.length c' ∧ U'.length ≤ k ∧ Hid (U'.map Prod.fst = (Us.take k).map Prod.fst) ∧ Hid (UO w.heap.size wr A' c' U') ∧ Below w.heap.size w wr) (fun _ s13 _ => Us.length - (intOf s13).toNat)
  case atStart => exact ⟨0, none, 0, [], Nat.zero_le _, rfl, rfl, Nat.zero_le _, Lib.hid rfl, Lib.hid ⟨OR.nil _ _ _ _, by simp⟩, Below.refl _ _⟩
  case round =>
    obtain ⟨k, A', c', U', hk, rfl, rfl, hl', hv, HO, hB⟩ := hrel
    clear c2'
    by_cases hlt : k < Us.length
    · obtain ⟨b, hBe, hbl, hcs⟩ := HU2.out.wcells hlt
      subst hBe
      obtain ⟨d0, d1, d2, d3⟩ := hcs wr (hB.block b hbl)
      have HRB := Lib.hid (((HU4.out _ (List.getElem_mem hlt)).1.rb).below hB)
      have hdl : Us[k].1.data.length ≤ 4194304 := by
        have := (HOK.out Us[k].1 (by rw [← HU1.out]; exact List.mem_map.2 ⟨_, List.getElem_mem hlt, rfl⟩)).2
        omega
      have HV : Hid (∀ B cb, (U' ++ [(Us[k].1, B, cb)]).map Prod.fst = (Us.take (k + 1)).map Prod.fst) := Lib.hid fun B cb => by
        rw [List.take_succ_eq_append_getElem hlt, List.map_append, List.map_append, hv.out]; rfl
      have heta : Us[k].1 = ⟨Us[k].1.kind, Us[k].1.name, Us[k].1.off, Us[k].1.data⟩ := rfl
      rw [heta] at HV
      generalize Us[k].1.kind = kk at *
      generalize Us[k].1.name = kn at *
      generalize Us[k].1.off = ko at *
      generalize Us[k].1.data = kd at *
      generalize Us[k].2.1 = kA at *
      generalize Us[k].2.2 = kc at *
      have hlt1 : k + 1 ≤ Us.length := hlt
      have HZ := Lib.hid (Blk.new wr #[.int .i64 0, .string ⟨#[]⟩, .int .i64 0, .slice none 0 0] 73)
      obtain ⟨hba, hxa⟩ := below_row wr #[.int .i64 0, .string ⟨#[]⟩, .int .i64 0, .slice none 0 0] #[.int .i64 kk, .string ⟨kn.toArray⟩, .int .i64 (ko : Int), .slice kA kd.length kc] 73
      have HBA := Lib.hid hba
      have HXA := Lib.hid hxa
      have HO2 := Lib.hid (HO.out.below hba)
      have HUL : Hid (∀ b, (∃ p ∈ U', p.2.1.map (·.block) = some b) ∨ A'.map (·.block) = some b → b < wr.heap.size) := Lib.hid fun b hb => by
        rcases hb with ⟨p, hp, hb⟩ | hb
        · exact ((HO.out.dat p hp).blk_lt b hb).2
        · exact (HO.out.row.blk_lt b hb).2
      have hB2 := hB.trans (hba.mono hB.size)
      have CL := Lib.hid (cloneB' kA kc kd _ (HRB.out.below hba) (by omega))
      have HXL : Hid (wr.heap.size < ((wr.alloc (.cells #[.int .i64 0, .string ⟨#[]⟩, .int .i64 0, .slice none 0 0] 73)).setRow wr.heap.size #[.int .i64 kk, .string ⟨kn.toArray⟩, .int .i64 (ko : Int), .slice kA kd.length kc]).heap.size) := Lib.hid hxa.lt
      have hwr := hB.size
      clear heta hv HO hB hcs hba hxa
      go_wp2_with (refine wpList_store_row rfl 73 (.tmp 5) (.tmp 16) rfl wr.heap.size #[.int .i64 kk, .string ⟨kn.toArray⟩, .int .i64 (ko : Int), .slice kA kd.length kc] rfl rfl _ _ HZ.out write_size rfl (by simp [Value.oneCell']) ?_; have x3 := HXA.out.cell 3 rfl)
      with_reducible refine CL.out.mono ?_
      rintro e w4 ⟨A8, c8, rfl, ho8, hb8⟩
      have hx4 := HXA.out.kept hb8
      have HO4 := Lib.hid (HO2.out.below hb8)
      have hB4 := hB2.trans (hb8.mono hB2.size)
      have hx5 := hx4.setCell 3 (.slice A8 kd.length c8)
      have hsz8 : wr.heap.size < w4.heap.size := Nat.lt_of_lt_of_le HXL.out hb8.size
      have ho8' := ho8.base_le (Nat.le_of_lt HXL.out)
      have HO5 : Hid (OB (w4.setCell ⟨wr.heap.size, 3, none⟩ (.slice A8 kd.length c8)) w.heap.size A8 c8 kd) := Lib.hid ((ho8'.base_le hwr).of_block fun b hb => Below.heap_setCell _ _ _ b (by rintro rfl; exact ho8.ne_var hx4 (by decide) hb))
      have hUm : ∀ b, (∃ p ∈ U', p.2.1.map (·.block) = some b) ∨ A'.map (·.block) = some b → b < wr.heap.size := HUL.out
      have HUO5 : Hid (UO w.heap.size (w4.setCell ⟨wr.heap.size, 3, none⟩ (.slice A8 kd.length c8)) A' c' U') := Lib.hid ⟨HO4.out.row.of_block fun b hb => Below.heap_setCell _ _ _ b (by have := hUm b (.inr hb); simp only; omega), fun p hp => (HO4.out.dat p hp).of_block fun b hb => Below.heap_setCell _ _ _ b (by have := hUm b (.inl ⟨p, hp, hb⟩); simp only; omega)⟩
      have HB5 : Hid (Below w.heap.size w (w4.setCell ⟨wr.heap.size, 3, none⟩ (.slice A8 kd.length c8))) := Lib.hid (hB4.setCell (p := ⟨wr.heap.size, 3, none⟩) hwr _)
      have q3 := hx4.free 3
      have x0 := hx4.cell 0 rfl
      have x1 := hx4.cell 1 rfl
      have x2 := hx4.cell 2 rfl
      have x3' := hx4.cell 3 rfl
      have HX5 : Hid (Blk (w4.setCell ⟨wr.heap.size, 3, none⟩ (.slice A8 kd.length c8)) wr.heap.size 73 #[.int .i64 kk, .string ⟨kn.toArray⟩, .int .i64 (ko : Int), .slice A8 kd.length c8]) := Lib.hid hx5
      clear CL HO2 hB2 HRB HBA HXA HZ ho8 ho8' hb8 hx5 hB4 HO4 hUm x3 hx4 d0 d1 d2 d3
      have hba5 : Below (w4.setCell ⟨wr.heap.size, 3, none⟩ (.slice A8 kd.length c8)).heap.size (w4.setCell ⟨wr.heap.size, 3, none⟩ (.slice A8 kd.length c8)) ((w4.setCell ⟨wr.heap.size, 3, none⟩ (.slice A8 kd.length c8)).alloc (.cells #[.int .i64 kk, .string ⟨kn.toArray⟩, .int .i64 (ko : Int), .slice A8 kd.length c8] 73)) := (Below.refl _ _).alloc (Nat.le_refl _) _
      have HUA := Lib.hid (HUO5.out.below hba5)
      have HOA := Lib.hid (HO5.out.below hba5)
      have HBA5 := Lib.hid (HB5.out.trans (hba5.mono HB5.out.size))
      have HL5 : Hid (Blk ((w4.setCell ⟨wr.heap.size, 3, none⟩ (.slice A8 kd.length c8)).alloc (.cells #[.int .i64 kk, .string ⟨kn.toArray⟩, .int .i64 (ko : Int), .slice A8 kd.length c8] 73)) w4.heap.size 73 #[.int .i64 kk, .string ⟨kn.toArray⟩, .int .i64 (ko : Int), .slice A8 kd.length c8]) := Lib.hid (by
        have := Blk.new (w4.setCell ⟨wr.heap.size, 3, none⟩ (.slice A8 kd.length c8)) #[.int .i64 kk, .string ⟨kn.toArray⟩, .int .i64 (ko : Int), .slice A8 kd.length c8] 73
        rw [show (w4.setCell ⟨wr.heap.size, 3, none⟩ (.slice A8 kd.length c8)).heap.size = w4.heap.size from by simp] at this
        exact this)
      have HAP := HV.out A8 c8
      have HAPP := Lib.hid HAP
      clear HUO5 HO5 HB5 HX5 hba5 HAP HV
      obtain ⟨i0, hi0, hz0, hz1, hz2⟩ := info_parts write_info
      go_wp2_with (at_builtin; refine wp_appendS _ rfl (.tmp 21) (.tmp 23) 40 73 rfl Tryd.underlying40 hi0 hz0 hz1 hz2 rfl (by decide) w.heap.size A' (some ⟨w4.heap.size, 0, none⟩) c' 1 (U'.map wrRow) [[.int .i64 kk, .string ⟨kn.toArray⟩, .int .i64 (ko : Int), .slice A8 kd.length c8]] (by simp; rfl) (by simp; rfl) HUA.out.row (RS.lit HL5.out) (by simp) (by simp [Value.oneCell']) (by simp; omega) (by simp; omega) HBA5.out.size ?_; intro ys A9 c9 w9 hys hy1 hy2 hrow hg9 hA9)
      have HYS : Hid (ys = (U' ++ [((⟨kk, kn, ko, kd⟩, A8, c8) : Wr × Option Addr × Nat)]).map wrRow) := Lib.hid (by rw [hys.out, List.map_append]; rfl)
      have HU9 : Hid (UO w.heap.size w9 A9 c9 (U' ++ [((⟨kk, kn, ko, kd⟩, A8, c8) : Wr × Option Addr × Nat)])) := Lib.hid ⟨by rw [← HYS.out]; exact hrow, fun p hp => by
        rcases List.mem_append.1 hp with hp | hp
        · exact (HUA.out.dat p hp).grown_row hg9 ((HUA.out.dat p hp).ne_row HUA.out.row (by decide))
        · rw [List.mem_singleton] at hp
          subst hp
          exact HOA.out.grown_row hg9 (HOA.out.ne_row HUA.out.row (by decide))⟩
      have hB9 := HBA5.out.grown hg9 HBA5.out.size (fun b hb => (HUA.out.row.blk_lt b hb).1)
      have HYL : Hid (ys.length = (U' ++ [((⟨kk, kn, ko, kd⟩, A8, c8) : Wr × Option Addr × Nat)]).length) := Lib.hid (by rw [HYS.out, List.length_map])
      have hyl : (U' ++ [((⟨kk, kn, ko, kd⟩, A8, c8) : Wr × Option Addr × Nat)]).length ≤ k + 1 := by simp; omega
      clear hys hy1 hy2 hrow hg9 hA9 HUA HOA HBA5 HL5
      rw [HYL.out]
      generalize (U' ++ [((⟨kk, kn, ko, kd⟩, A8, c8) : Wr × Option Addr × Nat)]) = U9 at *
      go_roundw
      case rel => exact ⟨k + 1, A9, c9, U9, hlt1, by go_num, rfl, hyl, HAPP, HU9, hB9⟩
      case measure => simp [intOf]; omega
    · obtain rfl : k = Us.length := by omega
      have HF : Hid (NewU w D.unsure (.returned (.slice A' U'.length c')) wr) := Lib.hid ⟨A', c', U', rfl, Lib.hid (by rw [hv.out, List.take_of_length_le (Nat.le_refl _), HU1.out]), HO.out, hB⟩
      clear hv HO hB
      go_wp2_with fail
      go_ret
      exact HF.out
end
end Go.Proofs.YthdmnajcphaekaaDoor
/- Contract of package disk's Copy. -/
namespace Go.Proofs.YthdmnajcphaekaaDoor
open Go.RowKit

section
variable {S : Nat → Prop} {w w' : World} {g mf ms : Nat} {A : Option Addr} {c : Nat} {D : DSt}
theorem UO.ui {n : Nat} {U : List (Wr × Option Addr × Nat)} {us : List Wr} (h : UO n w A c U) (hv : U.map Prod.fst = us) {T : Nat → Prop} (hT : ∀ b, n ≤ b → b < w.heap.size → T b) : UI T w A c us :=
  ⟨U, hv, h.row.mono (Nat.zero_le _), fun b hb => hT b (h.row.blk_lt b hb).1 (h.row.blk_lt b hb).2, fun p hp => ⟨(h.dat p hp).base_le (Nat.zero_le _), fun b hb => hT b ((h.dat p hp).blk_lt b hb).1 ((h.dat p hp).blk_lt b hb).2⟩⟩
set_option maxRecDepth 20000 in
set_option maxHeartbeats 8000000 in
theorem diskCopyC (h : DI S w g D) (hcnt : D.cnt ≤ 1000000) : Calls Tryd.prog 27 #[.pointer (some ⟨g, 0, none⟩)] w fun e w' => ∃ g2, e = .returned (.pointer (some ⟨g2, 0, none⟩)) ∧ DI (News w w') w' g2 D ∧ Below w.heap.size w w' := by
  obtain ⟨mf, ms, A, c, h⟩ := h
  have HR := Lib.hid h
  clear h
  go_enter Tryd.func27, Tryd.ntmps27
  go_wp2_with fail
  refine wp_region_planE_gen (by kernel_rfl) [(0, none), (1, none), (2, none), (3, none), (5, none), (6, none), (7, none), (8, none), (10, none), (12, none), (13, none), (14, none), (15, none), (16, none), (17, none), (18, none), (19, none), (20, none), (21, none), (22, none), (23, none), (4, some [3]), (9, some [8]), (11, some [10]), (24, none), (25, some [24]), (26, none)] (by kernel_rfl) (by kernel_rfl) (by decide) ?_
  intro wq hwq
  have hB1 : Below w.heap.size w wq := by rw [hwq]; exact (Below.refl _ _).drew
  have H1 := Lib.hid (HR.out.below hB1)
  have c0 := H1.out.blk.cell 0 rfl
  have c1 := H1.out.blk.cell 1 rfl
  have c3 := H1.out.blk.cell 3 rfl
  have c4 := H1.out.blk.cell 4 rfl
  have c5 := H1.out.blk.cell 5 rfl
  clear hwq
  iterate 3 (refine planE_pure (v := ?_) rfl (by rfl) (fun w' => ?_) ?_; rotate_left; (focus (simp only [List.getElem_toArray, List.getElem_cons_succ, List.getElem_cons_zero]; go_simp; first | with_reducible rfl | (simp (disch := omega) only [if_pos, if_neg, dif_pos, Result.andThen_ok]; try with_reducible rfl) | skip)); try simp only [List.getElem_toArray, List.getElem_cons_succ, List.getElem_cons_zero, Act.put, List.setIfInBounds_toArray, List.set_cons_zero, List.set_cons_succ])
  refine planE_cells (v := ?_) [(⟨g, 0, none⟩, .map (some mf))] (by simp; and_intros <;> assumption) rfl (by rfl) (fun w' hw' => ?_) ?_; rotate_left; (focus (simp only [List.forall_mem_cons, List.not_mem_nil, false_imp_iff, implies_true, and_true] at hw'; simp only [List.getElem_toArray, List.getElem_cons_succ, List.getElem_cons_zero]; go_simp; first | with_reducible rfl | (simp (disch := omega) only [if_pos, if_neg, dif_pos, Result.andThen_ok]; try with_reducible rfl) | skip)); try simp only [List.getElem_toArray, List.getElem_cons_succ, List.getElem_cons_zero, Act.put, List.setIfInBounds_toArray, List.set_cons_zero, List.set_cons_succ]
  iterate 3 (refine planE_pure (v := ?_) rfl (by rfl) (fun w' => ?_) ?_; rotate_left; (focus (simp only [List.getElem_toArray, List.getElem_cons_succ, List.getElem_cons_zero]; go_simp; first | with_reducible rfl | (simp (disch := omega) only [if_pos, if_neg, dif_pos, Result.andThen_ok]; try with_reducible rfl) | skip)); try simp only [List.getElem_toArray, List.getElem_cons_succ, List.getElem_cons_zero, Act.put, List.setIfInBounds_toArray, List.set_cons_zero, List.set_cons_succ])
  refine planE_cells (v := ?_) [(⟨g, 1, none⟩, .map (some ms))] (by simp; and_intros <;> assumption) rfl (by rfl) (fun w' hw' => ?_) ?_; rotate_left; (focus (simp only [List.forall_mem_cons, List.not_mem_nil, false_imp_iff, implies_true, and_true] at hw'; simp only [List.getElem_toArray, List.getElem_cons_succ, List.getElem_cons_zero]; go_simp; first | with_reducible rfl | (simp (disch := omega) only [if_pos, if_neg, dif_pos, Result.andThen_ok]; try with_reducible rfl) | skip)); try simp only [List.getElem_toArray, List.getElem_cons_succ, List.getElem_cons_zero, Act.put, List.setIfInBounds_toArray, List.set_cons_zero, List.set_cons_succ]
  iterate 4 (refine planE_pure (v := ?_) rfl (by rfl) (fun w' => ?_) ?_; rotate_left; (focus (simp only [List.getElem_toArray, List.getElem_cons_succ, List.getElem_cons_zero]; go_simp; first | with_reducible rfl | (simp (disch := omega) only [if_pos, if_neg, dif_pos, Result.andThen_ok]; try with_reducible rfl) | skip)); try simp only [List.getElem_toArray, List.getElem_cons_succ, List.getElem_cons_zero, Act.put, List.setIfInBounds_toArray, List.set_cons_zero, List.set_cons_succ])
  refine planE_cells (v := ?_) [(⟨g, 3, none⟩, .int .i64 D.room)] (by simp; and_intros <;> assumption) rfl (by rfl) (fun w' hw' => ?_) ?_; rotate_left; (focus (simp only [List.forall_mem_cons, List.not_mem_nil, false_imp_iff, implies_true, and_true] at hw'; simp only [List.getElem_toArray, List.getElem_cons_succ, List.getElem_cons_zero]; go_simp; first | with_reducible rfl | (simp (disch := omega) only [if_pos, if_neg, dif_pos, Result.andThen_ok]; try with_reducible rfl) | skip)); try simp only [List.getElem_toArray, List.getElem_cons_succ, List.getElem_cons_zero, Act.put, List.setIfInBounds_toArray, List.set_cons_zero, List.set_cons_succ]
  iterate 3 (refine planE_pure (v := ?_) rfl (by rfl) (fun w' => ?_) ?_; rotate_left; (focus (simp only [List.getElem_toArray, List.getElem_cons_succ, List.getElem_cons_zero]; go_simp; first | with_reducible rfl | (simp (disch := omega) only [if_pos, if_neg, dif_pos, Result.andThen_ok]; try with_reducible rfl) | skip)); try simp only [List.getElem_toArray, List.getElem_cons_succ, List.getElem_cons_zero, Act.put, List.setIfInBounds_toArray, List.set_cons_zero, List.set_cons_succ])
  refine planE_cells (v := ?_) [(⟨g, 4, none⟩, .int .i64 D.fuse)] (by simp; and_intros <;> assumption) rfl (by rfl) (fun w' hw' => ?_) ?_; rotate_left; (focus (simp only [List.forall_mem_cons, List.not_mem_nil, false_imp_iff, implies_true, and_true] at hw'; simp only [List.getElem_toArray, List.getElem_cons_succ, List.getElem_cons_zero]; go_simp; first | with_reducible rfl | (simp (disch := omega) only [if_pos, if_neg, dif_pos, Result.andThen_ok]; try with_reducible rfl) | skip)); try simp only [List.getElem_toArray, List.getElem_cons_succ, List.getElem_cons_zero, Act.put, List.setIfInBounds_toArray, List.set_cons_zero, List.set_cons_succ]
  iterate 3 (refine planE_pure (v := ?_) rfl (by rfl) (fun w' => ?_) ?_; rotate_left; (focus (simp only [List.getElem_toArray, List.getElem_cons_succ, List.getElem_cons_zero]; go_simp; first | with_reducible rfl | (simp (disch := omega) only [if_pos, if_neg, dif_pos, Result.andThen_ok]; try with_reducible rfl) | skip)); try simp only [List.getElem_toArray, List.getElem_cons_succ, List.getElem_cons_zero, Act.put, List.setIfInBounds_toArray, List.set_cons_zero, List.set_cons_succ])
  refine planE_cells (v := ?_) [(⟨g, 5, none⟩, .bool D.down)] (by simp; and_intros <;> assumption) rfl (by rfl) (fun w' hw' => ?_) ?_; rotate_left; (focus (simp only [List.forall_mem_cons, List.not_mem_nil, false_imp_iff, implies_true, and_true] at hw'; simp only [List.getElem_toArray, List.getElem_cons_succ, List.getElem_cons_zero]; go_simp; first | with_reducible rfl | (simp (disch := omega) only [if_pos, if_neg, dif_pos, Result.andThen_ok]; try with_reducible rfl) | skip)); try simp only [List.getElem_toArray, List.getElem_cons_succ, List.getElem_cons_zero, Act.put, List.setIfInBounds_toArray, List.set_cons_zero, List.set_cons_succ]
  refine planE_eff rfl (by rfl) (fun K hK => ?_)
  go_simp
  refine (diskClone wq H1.out.fi (fun k l hk => by have := H1.out.ok.files k l hk; omega)).mono ?_
  rintro e w2 ⟨rfl, hf2, hb2⟩
  have H2 := Lib.hid (H1.out.below hb2)
  have hB2 := hB1.trans (hb2.mono hB1.size)
  have HF2 := Lib.hid (hf2.mono (T := fun b => w.heap.size ≤ b) fun b _ hb => Nat.le_trans hB1.size hb.1)
  obtain ⟨m1, hm1⟩ : ∃ m1, m1 = wq.heap.size := ⟨_, rfl⟩
  rw [← hm1] at HF2 ⊢
  have hm1l : m1 < w2.heap.size := by obtain ⟨es, hm⟩ := HF2.out.at_; exact hm.lt
  clear hf2 hb2 H1 c0 c1 c3 c4 c5 hm1 hB1
  have c0 := H2.out.blk.cell 0 rfl
  have c1 := H2.out.blk.cell 1 rfl
  have c3 := H2.out.blk.cell 3 rfl
  have c4 := H2.out.blk.cell 4 rfl
  have c5 := H2.out.blk.cell 5 rfl
  refine hK _ _ (by simp [owed, left] <;> (and_intros <;> first | trivial | assumption)) ?_
  clear hK K
  try simp only [List.getElem_toArray, List.getElem_cons_succ, List.getElem_cons_zero, Act.put, List.setIfInBounds_toArray, List.set_cons_zero, List.set_cons_succ]
  refine planE_eff rfl (by rfl) (fun K hK => ?_)
  go_simp
  refine (diskClone w2 H2.out.si (fun k l hk => by have := H2.out.ok.2.2.1 k l hk; omega)).mono ?_
  rintro e w3 ⟨rfl, hf3, hb3⟩
  have H3 := Lib.hid (H2.out.below hb3)
  have hB3 := hB2.trans (hb3.mono hB2.size)
  have HF3 := Lib.hid (HF2.out.below hb3)
  have HS3 := Lib.hid (hf3.mono (T := fun b => w.heap.size ≤ b) fun b _ hb => Nat.le_trans hB2.size hb.1)
  obtain ⟨m2, hm2⟩ : ∃ m2, m2 = w2.heap.size := ⟨_, rfl⟩
  rw [← hm2] at HS3 hm1l ⊢
  clear hf3 hb3 H2 c0 c1 c3 c4 c5 hm2 hB2 HF2
  have c0 := H3.out.blk.cell 0 rfl
  have c1 := H3.out.blk.cell 1 rfl
  have c3 := H3.out.blk.cell 3 rfl
  have c4 := H3.out.blk.cell 4 rfl
  have c5 := H3.out.blk.cell 5 rfl
  refine hK _ _ (by simp [owed, left] <;> (and_intros <;> first | trivial | assumption)) ?_
  clear hK K
  try simp only [List.getElem_toArray, List.getElem_cons_succ, List.getElem_cons_zero, Act.put, List.setIfInBounds_toArray, List.set_cons_zero, List.set_cons_succ]
  refine planE_eff rfl (by rfl) (fun K hK => ?_)
  go_simp
  refine (diskUnsureC (S := S) (D := D) ⟨mf, ms, A, c, H3.out⟩ hcnt).mono ?_
  rintro e w4 ⟨A4, c4', U4, rfl, hv4, hu4, hb4⟩
  have H4 := Lib.hid (H3.out.below hb4)
  have hB4 := hB3.trans (hb4.mono hB3.size)
  have HF4 := Lib.hid (HF3.out.below hb4)
  have HS4 := Lib.hid (HS3.out.below hb4)
  have HU4 := Lib.hid (hu4.ui hv4.out (T := fun b => w.heap.size ≤ b) fun b hb _ => Nat.le_trans hB3.size hb)
  have HUL : Hid (U4.length = D.unsure.length) := Lib.hid (by rw [← hv4.out, List.length_map])
  rw [HUL.out]
  clear hv4 hu4 hb4 H3 c0 c1 c3 c4 c5 hB3 HF3 HS3 HUL
  have c0 := H4.out.blk.cell 0 rfl
  have c1 := H4.out.blk.cell 1 rfl
  have c3 := H4.out.blk.cell 3 rfl
  have c4 := H4.out.blk.cell 4 rfl
  have c5 := H4.out.blk.cell 5 rfl
  refine hK _ _ (by simp [owed, left] <;> (and_intros <;> first | trivial | assumption)) ?_
  clear hK K
  try simp only [List.getElem_toArray, List.getElem_cons_succ, List.getElem_cons_zero, Act.put, List.setIfInBounds_toArray, List.set_cons_zero, List.set_cons_succ]
  iterate 1 (refine planE_pure (v := ?_) rfl (by rfl) (fun w' => ?_) ?_; rotate_left; (focus (simp only [List.getElem_toArray, List.getElem_cons_succ, List.getElem_cons_zero]; go_simp; first | with_reducible rfl | (simp (disch := omega) only [if_pos, if_neg, dif_pos, Result.andThen_ok]; try with_reducible rfl) | skip)); try simp only [List.getElem_toArray, List.getElem_cons_succ, List.getElem_cons_zero, Act.put, List.setIfInBounds_toArray, List.set_cons_zero, List.set_cons_succ])
  refine planE_eff rfl (by rfl) (fun K hK => ?_)
  go_simp
  have hb5 : Below w4.heap.size w4 (w4.alloc (.cells #[.map (some m1), .map (some m2), .slice A4 D.unsure.length c4', .int .i64 D.room, .int .i64 D.fuse, .bool D.down] 69)) := (Below.refl _ _).alloc (Nat.le_refl _) _
  have HBK := Lib.hid (Blk.new w4 #[.map (some m1), .map (some m2), .slice A4 D.unsure.length c4', .int .i64 D.room, .int .i64 D.fuse, .bool D.down] 69)
  have hB5 := hB4.trans (hb5.mono hB4.size)
  have HF5 := Lib.hid (HF4.out.below hb5)
  have HS5 := Lib.hid (HS4.out.below hb5)
  have HU5 := Lib.hid (HU4.out.below hb5)
  have H5 := Lib.hid (H4.out.below hb5)
  have HOK := Lib.hid H4.out.ok
  obtain ⟨g2, hg2⟩ : ∃ g2, g2 = w4.heap.size := ⟨_, rfl⟩
  have hg2s : w.heap.size ≤ g2 := by rw [hg2]; exact hB4.size
  rw [← hg2] at HBK ⊢
  generalize w4.alloc (.cells #[.map (some m1), .map (some m2), .slice A4 D.unsure.length c4', .int .i64 D.room, .int .i64 D.fuse, .bool D.down] 69) = w5 at *
  clear hb5 H4 c0 c1 c3 c4 c5 hB4 HF4 HS4 HU4 hg2
  have c0 := H5.out.blk.cell 0 rfl
  have c1 := H5.out.blk.cell 1 rfl
  have c3 := H5.out.blk.cell 3 rfl
  have c4 := H5.out.blk.cell 4 rfl
  have c5 := H5.out.blk.cell 5 rfl
  refine hK _ _ (by simp [owed, left] <;> (and_intros <;> first | trivial | assumption)) ?_
  clear hK K
  try simp only [List.getElem_toArray, List.getElem_cons_succ, List.getElem_cons_zero, Act.put, List.setIfInBounds_toArray, List.set_cons_zero, List.set_cons_succ]
  iterate 1 (refine planE_pure (v := ?_) rfl (by rfl) (fun w' => ?_) ?_; rotate_left; (focus (simp only [List.getElem_toArray, List.getElem_cons_succ, List.getElem_cons_zero]; go_simp; first | with_reducible rfl | (simp (disch := omega) only [if_pos, if_neg, dif_pos, Result.andThen_ok]; try with_reducible rfl) | skip)); try simp only [List.getElem_toArray, List.getElem_cons_succ, List.getElem_cons_zero, Act.put, List.setIfInBounds_toArray, List.set_cons_zero, List.set_cons_succ])
  refine planE_end ?_
  have HF : Hid (∃ g', Ending.returned (.pointer (some ⟨g2, 0, none⟩)) = .returned (.pointer (some ⟨g', 0, none⟩)) ∧ DI (News w w5) w5 g' D ∧ Below w.heap.size w w5) := Lib.hid
    ⟨g2, rfl, ⟨m1, m2, A4, c4', HBK.out, HF5.out.mono fun b hb h => ⟨h, hb⟩, HS5.out.mono fun b hb h => ⟨h, hb⟩, by omega, HU5.out.mono fun b hb h => ⟨h, hb⟩, ⟨hg2s, HBK.out.lt⟩, HOK.out, fun b hb => hb.2⟩, hB5⟩
  clear HBK HF5 HS5 HU5 HOK H5 hB5 c0 c1 c3 c4 c5 HR
  go_wp2_with fail
  go_ret
  exact HF.out
end
end Go.Proofs.YthdmnajcphaekaaDoor
