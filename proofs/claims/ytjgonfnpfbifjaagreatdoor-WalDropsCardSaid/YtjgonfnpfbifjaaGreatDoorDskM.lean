/- DskM: put together by merge.py of: DiskM, DiskN, DiskO, DiskP. -/
import Derived.Test.YtjgonfnpfbifjaaGreatDoorDiskL
import Derived.Test.YtjgonfnpfbifjaaGreatDoorDskE
import Derived.Test.YtjgonfnpfbifjaaGreatDoorRowX
/- Contracts of package disk's change (all), Put, Cut, Remove, Room, Fuse, Down, Used. -/
namespace Go.Proofs.YtjgonfnpfbifjaaGreatDoor
open Go.RowKit

section
variable {S : Nat → Prop} {w w' : World} {g mf ms : Nat} {A : Option Addr} {c : Nat} {D : DSt}
theorem diskChange (kind : Int) (name : Nm) (off : Int) (data : List UInt8) (Y : Option Addr) (cy : Nat) (h : DI S w g D) (hY : RB w Y data) (hYM : 0 < data.length → ∀ b, Y.map (·.block) = some b → ¬ S b) (hcnt : D.cnt ≤ 1000000) (hs : name.length ≤ 9223372036854775807) (ho : -9223372036854775808 ≤ off ∧ off ≤ 9223372036854775807) (hdl : data.length ≤ 140737488355328) (hk : kind = 1 ∨ kind = 2 ∨ kind = 3) (hdat : kind ≠ 1 → data = []) :
    Calls Tryz.prog 60 #[.pointer (some ⟨g, 0, none⟩), .agg #[.int .i64 kind, .string ⟨name.toArray⟩, .int .i64 off, .slice Y data.length cy]] w (PDone S w g (changeD D ⟨kind, name, off.toNat, data⟩ off).2 (.int .i64 (changeD D ⟨kind, name, off.toNat, data⟩ off).1)) := by
  obtain ⟨mf, ms, A, c, hr⟩ := h
  have h : DI S w g D := ⟨mf, ms, A, c, hr⟩
  cases hd : D.down
  · by_cases hb : nameOk name = false ∨ off < 0 ∨ 4194304 < off
    · refine (diskChange_bad ⟨kind, name, off.toNat, data⟩ off Y cy h hd hs ho hb).mono ?_
      rintro e w' ⟨rfl, hb'⟩
      rw [changeD_err _ _ _ (refuse_bad hd hb) (by decide)]
      exact hr.same hb' _
    · have hn : nameOk name = true := by
        cases hn : nameOk name
        · exact absurd (.inl hn) hb
        · rfl
      obtain ⟨on, rfl⟩ : ∃ on : Nat, off = (on : Int) := ⟨off.toNat, by omega⟩
      exact diskChange_good kind name on data Y cy hr hY hYM hcnt hd hs (by omega) hdl hk hdat hn
  · refine (diskChange_down ⟨kind, name, off.toNat, data⟩ off Y cy h hd).mono ?_
    rintro e w' ⟨rfl, hb⟩
    rw [changeD_err _ _ _ (refuse_down hd) (by decide)]
    exact hr.same hb _
set_option maxHeartbeats 1000000 in
theorem diskPutC (name : Nm) (off : Int) (data : List UInt8) (Y : Option Addr) (cy : Nat) (h : DI S w g D) (hY : RB w Y data) (hYM : 0 < data.length → ∀ b, Y.map (·.block) = some b → ¬ S b) (hcnt : D.cnt ≤ 1000000) (hs : name.length ≤ 9223372036854775807) (ho : -9223372036854775808 ≤ off ∧ off ≤ 9223372036854775807) (hdl : data.length ≤ 140737488355328) :
    Calls Tryz.prog 33 #[.pointer (some ⟨g, 0, none⟩), .string ⟨name.toArray⟩, .int .i64 off, .slice Y data.length cy] w (PDone S w g (changeD D ⟨1, name, off.toNat, data⟩ off).2 (.int .i64 (changeD D ⟨1, name, off.toNat, data⟩ off).1)) := by
  have C := Lib.hid (diskChange 1 name off data Y cy h hY hYM hcnt hs ho hdl (.inl rfl) (fun h => absurd rfl h))
  clear h hY hYM
  go_enter Tryz.func33, Tryz.ntmps33
  go_wp2_with fail
  with_reducible refine C.out.mono ?_
  rintro e w' ⟨rfl, h⟩
  go_wp2_with fail
  go_ret
  exact ⟨rfl, h⟩
set_option maxHeartbeats 1000000 in
theorem diskCutC (name : Nm) (off : Int) (h : DI S w g D) (hcnt : D.cnt ≤ 1000000) (hs : name.length ≤ 9223372036854775807) (ho : -9223372036854775808 ≤ off ∧ off ≤ 9223372036854775807) :
    Calls Tryz.prog 42 #[.pointer (some ⟨g, 0, none⟩), .string ⟨name.toArray⟩, .int .i64 off] w (PDone S w g (changeD D ⟨2, name, off.toNat, []⟩ off).2 (.int .i64 (changeD D ⟨2, name, off.toNat, []⟩ off).1)) := by
  have C := Lib.hid (diskChange 2 name off [] none 0 h RB.nil (fun h => absurd h (by simp)) hcnt hs ho (by simp) (.inr (.inl rfl)) (fun _ => rfl))
  rw [List.length_nil] at C
  clear h
  go_enter Tryz.func42, Tryz.ntmps42
  go_wp2_with fail
  with_reducible refine C.out.mono ?_
  rintro e w' ⟨rfl, h⟩
  go_wp2_with fail
  go_ret
  exact ⟨rfl, h⟩
set_option maxHeartbeats 1000000 in
theorem diskRemoveC (name : Nm) (h : DI S w g D) (hcnt : D.cnt ≤ 1000000) (hs : name.length ≤ 9223372036854775807) :
    Calls Tryz.prog 43 #[.pointer (some ⟨g, 0, none⟩), .string ⟨name.toArray⟩] w (PDone S w g (changeD D ⟨3, name, 0, []⟩ 0).2 (.int .i64 (changeD D ⟨3, name, 0, []⟩ 0).1)) := by
  have C := Lib.hid (diskChange 3 name 0 [] none 0 h RB.nil (fun h => absurd h (by simp)) hcnt hs (by omega) (by simp) (.inr (.inr rfl)) (fun _ => rfl))
  rw [List.length_nil] at C
  clear h
  go_enter Tryz.func43, Tryz.ntmps43
  go_wp2_with fail
  with_reducible refine C.out.mono ?_
  rintro e w' ⟨rfl, h⟩
  go_wp2_with fail
  go_ret
  exact ⟨rfl, h⟩
/-- A store into the disk's own variable. -/
theorem DR.var {D' : DSt} (h : DR S w g mf ms A c D) (hs : w.heap.size ≤ w'.heap.size) (hk : ∀ b, b ≠ g → w'.heap[b]? = w.heap[b]?) (hb : Blk w' g 53 #[.map (some mf), .map (some ms), .slice A D.unsure.length c, .int .i64 D'.room, .int .i64 D'.fuse, .bool D'.down]) (h1 : D'.sure = D.sure) (h2 : D'.unsure = D.unsure) (hok : D'.ok) : DR S w' g mf ms A c D' :=
  ⟨by rw [h2]; exact hb, by unfold DSt.files; rw [h1, h2]; exact h.fi.of_var h.blk (by decide) hk, by rw [h1]; exact h.si.of_var h.blk (by decide) hk, h.ne, by rw [h2]; exact h.ui.of_var h.blk (by decide) (by decide) hk, h.sg, hok, fun b hb => Nat.lt_of_lt_of_le (h.bnd b hb) hs⟩
/-- What Room and Fuse answer, and what is behind them. -/
def roomD (D : DSt) (n : Int) : Int × DSt := if n < 0 ∨ 4194304 < n then (1, D) else (0, { D with room := n })
def fuseD (D : DSt) (n : Int) : Int × DSt := if n < 0 then (1, D) else (0, { D with fuse := n })
set_option maxHeartbeats 1000000 in
theorem diskDownC (h : DI S w g D) : Calls Tryz.prog 20 #[.pointer (some ⟨g, 0, none⟩)] w fun e w' => e = .returned (.bool D.down) ∧ w = w' := by
  obtain ⟨mf, ms, A, c, hr⟩ := h
  have c5 := hr.blk.cell 5 rfl
  clear hr
  go_enter Tryz.func20, Tryz.ntmps20
  go_wp2_with fail
  go_ret
  exact ⟨rfl, rfl⟩
end
end Go.Proofs.YtjgonfnpfbifjaaGreatDoor
/- Contracts of package disk's Sync, Read, Unsure. -/
namespace Go.Proofs.YtjgonfnpfbifjaaGreatDoor
open Go.RowKit

section
variable {S : Nat → Prop} {w w' : World} {g mf ms : Nat} {A : Option Addr} {c : Nat} {D : DSt}
set_option maxRecDepth 20000 in
set_option maxHeartbeats 4000000 in
theorem diskSyncC (h : DI S w g D) (hcnt : D.cnt ≤ 1000000) : Calls Tryz.prog 35 #[.pointer (some ⟨g, 0, none⟩)] w (PDone S w g (syncD D).2 (.int .i64 (syncD D).1)) := by
  have AL := Lib.hid (diskAlive h)
  obtain ⟨mf, ms, A, c, h⟩ := h
  cases hd : D.down
  · rw [if_neg (by rw [hd]; simp)] at AL
    have HB := Lib.hid (diskBurn h)
    have HH := Lib.hid h
    have hmg := h.sg
    cases hbd : (burnD D).down
    · have hsy : syncD D = (0, { burnD D with sure := D.files, unsure := [] }) := by unfold syncD; rw [hd, hbd]; rfl
      rw [hsy]
      rw [hbd] at HB
      have HBD := Lib.hid hbd
      clear h hsy hbd hd
      go_enter Tryz.func35, Tryz.ntmps35
      go_wp2_with fail
      refine AL.out.mono ?_
      rintro e w1 ⟨rfl, rfl⟩
      go_wp2_with fail
      refine HB.out.mono ?_
      rintro e w2 ⟨rfl, h2, hm2⟩
      have CL := Lib.hid (diskClone w2 h2.fi (fun k l hk => by have := h2.ok.files k l hk; omega))
      have c0 := h2.blk.cell 0 rfl
      have H2 := Lib.hid h2
      clear h2 AL HB
      go_wp2_with fail
      refine CL.out.mono ?_
      rintro e w3 ⟨rfl, hf3, hb3⟩
      have H3 := Lib.hid (H2.out.below hb3)
      have c1 := H3.out.blk.cell 1 rfl
      have c2' := H3.out.blk.cell 2 rfl
      have f1 := H3.out.blk.free 1
      have f2 := H3.out.blk.free 2
      have HFIN : Hid (PDone S w g { burnD D with sure := D.files, unsure := [] } (.int .i64 0) (.returned (.int .i64 0)) ((w3.setCell ⟨g, 1, none⟩ (.map (some w2.heap.size))).setCell ⟨g, 2, none⟩ (.slice none 0 0))) := Lib.hid (by
        have hkb : ∀ b, b ≠ g → ((w3.setCell ⟨g, 1, none⟩ (.map (some w2.heap.size))).setCell ⟨g, 2, none⟩ (.slice none 0 0)).heap[b]? = w3.heap[b]? := fun b hb => by rw [Below.heap_setCell _ _ _ b hb, Below.heap_setCell _ _ _ b hb]
        have hsz3 : ((w3.setCell ⟨g, 1, none⟩ (.map (some w2.heap.size))).setCell ⟨g, 2, none⟩ (.slice none 0 0)).heap.size = w3.heap.size := by simp
        have hbk := (H3.out.blk.setCell 1 (.map (some w2.heap.size))).setCell 2 (.slice none 0 0)
        have hs2 := hm2.size
        have hs3 := hb3.size
        refine ⟨rfl, ⟨mf, w2.heap.size, none, 0, ?_, ?_, ?_, ?_, UI.nil _ _, .inl hmg, ?_, fun b hb => ?_⟩, ((Mods.below (hm2.mono fun b _ hb => by subst hb; exact hmg) hb3).setCell _ (.inl hmg) _).setCell _ (.inl hmg) _⟩
        · exact hbk
        · show FI _ _ _ (List.foldl doF D.files [])
          have := (H3.out.fi.mono (T := Sx S w ((w3.setCell ⟨g, 1, none⟩ (.map (some w2.heap.size))).setCell ⟨g, 2, none⟩ (.slice none 0 0))) fun b _ hb => .inl hb).of_var H3.out.blk (by decide) hkb
          rw [burnD_files] at this
          exact this
        · have := (hf3.mono (T := Sx S w ((w3.setCell ⟨g, 1, none⟩ (.map (some w2.heap.size))).setCell ⟨g, 2, none⟩ (.slice none 0 0))) fun b _ hb => .inr ⟨by have := hb.1; omega, by rw [hsz3]; exact hb.2⟩).of_var H3.out.blk (by decide) hkb
          rw [burnD_files] at this
          exact this
        · have := H2.out.fi.at_
          obtain ⟨es, hm⟩ := this
          have := hm.lt
          omega
        · exact ⟨(burnD_ok HH.out.ok).1, (burnD_ok HH.out.ok).2.1, HH.out.ok.files, by simp⟩
        · rcases hb with hb | hb
          · have := HH.out.bnd b hb; rw [hsz3]; omega
          · exact hb.2)
      clear hf3 hb3 H2 H3 CL hm2 c0 HBD HH
      go_wp2_with fail
      go_ret
      exact HFIN.out
    · have hsy : syncD D = (11, burnD D) := by unfold syncD; rw [hd, hbd]; rfl
      rw [hsy]
      rw [hbd] at HB
      clear h hsy hbd hd
      go_enter Tryz.func35, Tryz.ntmps35
      go_wp2_with fail
      refine AL.out.mono ?_
      rintro e w1 ⟨rfl, rfl⟩
      go_wp2_with fail
      refine HB.out.mono ?_
      rintro e w2 ⟨rfl, h2, hm2⟩
      have HF : Hid (PDone S w g (burnD D) (.int .i64 11) (.returned (.int .i64 11)) w2) := Lib.hid ⟨rfl, h2.sx hm2.size HH.out.bnd, hm2.mono fun b _ hb => by subst hb; exact hmg⟩
      clear h2 hm2 HB AL HH
      go_wp2_with fail
      go_ret
      exact HF.out
  · rw [if_pos hd] at AL
    have hsy : syncD D = (11, D) := by unfold syncD; rw [hd]; rfl
    rw [hsy]
    have HF := Lib.hid (h.same (Below.refl _ _) (.int .i64 11))
    clear h hsy hd
    go_enter Tryz.func35, Tryz.ntmps35
    go_wp2_with fail
    refine AL.out.mono ?_
    rintro e w1 ⟨rfl, rfl⟩
    go_wp2_with fail
    go_ret
    exact HF.out

set_option maxRecDepth 20000 in
set_option maxHeartbeats 4000000 in
theorem diskReadC (name : Nm) (h : DI S w g D) (hn : name.length ≤ 9223372036854775807) : Calls Tryz.prog 52 #[.pointer (some ⟨g, 0, none⟩), .string ⟨name.toArray⟩] w (ReadEnd w D name) := by
  have AL := Lib.hid (diskAlive h)
  obtain ⟨mf, ms, A, c, h⟩ := h
  cases hd : D.down
  · rw [if_neg (by rw [hd]; simp)] at AL
    have NM := Lib.hid (diskNamed ⟨name.toArray⟩ w (by simpa [ByteArray.size] using hn))
    cases hno : nameOk name
    · rw [show nameOk (⟨name.toArray⟩ : ByteArray).data.toList = false from hno] at NM
      have HE : Hid (readE D name = 1) := Lib.hid (by unfold readE; rw [hd, hno]; rfl)
      clear h hd hno
      go_enter Tryz.func52, Tryz.ntmps52
      go_wp2_with fail
      refine AL.out.mono ?_
      rintro e w1 ⟨rfl, rfl⟩
      go_wp2_with fail
      refine NM.out.mono ?_
      rintro e w2 ⟨rfl, hb⟩
      clear AL NM
      go_wp2_with fail
      go_ret2
      exact readEnd_err HE.out (by decide) hb
    · rw [show nameOk (⟨name.toArray⟩ : ByteArray).data.toList = true from hno] at NM
      obtain ⟨es, hmap, ht, _, _⟩ := h.fi
      obtain ⟨Ao, co, hrb, hl⟩ := ht.look2 (m := mf) name
      have HMAP := Lib.hid hmap
      have HL := Lib.hid hl
      have HRB := Lib.hid hrb
      have HBL := Lib.hid h.blk
      have HRE : Hid (∀ b, (fget D.files name).isSome = b → readE D name = if b = true then 0 else 8) := Lib.hid fun b hb => by unfold readE; rw [hd, hno, hb]; rfl
      have hol : ((fget D.files name).getD []).length ≤ 4194304 := by
        cases hg : fget D.files name with
        | none => simp
        | some l => exact h.ok.files _ _ hg
      have HOL : Hid (∃ l, (fget D.files name).getD [] = l) := Lib.hid ⟨_, rfl⟩
      clear h hd hno hmap ht hl hrb
      obtain ⟨old, hold⟩ := HOL.out
      rw [hold] at HL HRB hol
      have HOLD := Lib.hid hold
      clear hold HOL
      cases hse : (fget D.files name).isSome
      · have HE : Hid (readE D name = 8) := Lib.hid (by rw [HRE.out false hse]; rfl)
        rw [hse] at HL
        clear hse HRE
        go_enter Tryz.func52, Tryz.ntmps52
        go_wp2_with fail
        refine AL.out.mono ?_
        rintro e w1 ⟨rfl, rfl⟩
        go_wp2_with fail
        refine NM.out.mono ?_
        rintro e w2 ⟨rfl, hb⟩
        have c0 := (HBL.out.kept hb).cell 0 rfl
        have hlk := HL.out w2 (HMAP.out.below hb)
        clear AL NM
        go_wp2_with fail
        go_ret2
        exact readEnd_err HE.out (by decide) hb
      · have HE : Hid (readE D name = 0) := Lib.hid (by rw [HRE.out true hse]; rfl)
        have HB : Hid (readB D name = old) := Lib.hid (by unfold readB; rw [HE.out, if_pos rfl, HOLD.out])
        rw [hse] at HL
        clear hse HRE
        go_enter Tryz.func52, Tryz.ntmps52
        go_wp2_with fail
        refine AL.out.mono ?_
        rintro e w1 ⟨rfl, rfl⟩
        go_wp2_with fail
        refine NM.out.mono ?_
        rintro e w2 ⟨rfl, hb⟩
        have c0 := (HBL.out.kept hb).cell 0 rfl
        have hlk := HL.out w2 (HMAP.out.below hb)
        have CL := Lib.hid (cloneB' Ao co old w2 (HRB.out.below hb) (by omega))
        clear AL NM
        go_wp2_with fail
        refine CL.out.mono ?_
        rintro e w3 ⟨A', c', rfl, ho, hb3⟩
        have HF : Hid (ReadEnd w D name (.returned (.tuple #[.slice A' old.length c', .int .i64 0])) w3) := Lib.hid ⟨A', c', by rw [HB.out, HE.out], by rw [HB.out]; exact ho.base_le hb.size, hb.trans (hb3.mono hb.size)⟩
        clear CL ho hb3 hb HMAP HL HRB HBL
        go_wp2_with fail
        go_ret2
        exact HF.out
  · rw [if_pos hd] at AL
    have HE : Hid (readE D name = 11) := Lib.hid (by unfold readE; rw [hd]; rfl)
    clear h hd
    go_enter Tryz.func52, Tryz.ntmps52
    go_wp2_with fail
    refine AL.out.mono ?_
    rintro e w1 ⟨rfl, rfl⟩
    go_wp2_with fail
    go_ret2
    exact readEnd_err HE.out (by decide) (Below.refl _ _)
end
end Go.Proofs.YtjgonfnpfbifjaaGreatDoor
/- Contract of package disk's Unsure. -/
namespace Go.Proofs.YtjgonfnpfbifjaaGreatDoor
open Go.RowKit

theorem OR.wcells {w : World} {n c k : Nat} {B : Option Addr} {U : List (Wr × Option Addr × Nat)} (h : OR w n 80 4 B c (U.map wrRow)) (hk : k < U.length) : ∃ b, B = some ⟨b, 0, none⟩ ∧ b < w.heap.size ∧ ∀ w' : World, w'.heap[b]? = w.heap[b]? → w'.cell? ⟨b, k * 4, none⟩ = some (.int .i64 U[k].1.kind) ∧ w'.cell? ⟨b, k * 4 + 1, none⟩ = some (.string ⟨U[k].1.name.toArray⟩) ∧ w'.cell? ⟨b, k * 4 + 2, none⟩ = some (.int .i64 (U[k].1.off : Int)) ∧ w'.cell? ⟨b, k * 4 + 3, none⟩ = some (.slice U[k].2.1 U[k].1.data.length U[k].2.2) := by
  obtain ⟨b, rfl, _, hb⟩ := h.head' (by simp; omega)
  refine ⟨b, rfl, hb, fun w' hw => ?_⟩
  have hi : (U.map wrRow)[k]? = some (wrRow U[k]) := by simp [hk]
  have h0 := h.rs.get hi 0 rfl
  have h1 := h.rs.get hi 1 rfl
  have h2 := h.rs.get hi 2 rfl
  have h3 := h.rs.get hi 3 rfl
  rw [Nat.zero_add] at h0 h1 h2 h3
  have e : ∀ o, w'.cell? ⟨b, o, none⟩ = w.cell? ⟨b, o, none⟩ := fun o => World.cell?_of_block (w := w) (a := ⟨b, o, none⟩) hw
  exact ⟨(e _).trans h0, (e _).trans h1, (e _).trans h2, (e _).trans h3⟩
/-- Changes of the call's own. -/
structure UO (n : Nat) (w : World) (A : Option Addr) (c : Nat) (U : List (Wr × Option Addr × Nat)) : Prop where
  row : OR w n 80 4 A c (U.map wrRow)
  dat : ∀ p ∈ U, OB w n p.2.1 p.2.2 p.1.data
theorem UO.below {n c : Nat} {w w' : World} {A : Option Addr} {U : List (Wr × Option Addr × Nat)} (h : UO n w A c U) (hb : Below w.heap.size w w') : UO n w' A c U := ⟨h.row.below hb, fun p hp => (h.dat p hp).below hb⟩
def NewU (w : World) (us : List Wr) (e : Ending) (w' : World) : Prop :=
  ∃ (A : Option Addr) (c : Nat) (U : List (Wr × Option Addr × Nat)), e = .returned (.slice A U.length c) ∧ Hid (U.map Prod.fst = us) ∧ UO w.heap.size w' A c U ∧ Below w.heap.size w w'
section
variable {S : Nat → Prop} {w w' : World} {g mf ms : Nat} {A : Option Addr} {c : Nat} {D : DSt}
end
end Go.Proofs.YtjgonfnpfbifjaaGreatDoor
/- Contract of package disk's Copy. -/
namespace Go.Proofs.YtjgonfnpfbifjaaGreatDoor
open Go.RowKit

section
variable {S : Nat → Prop} {w w' : World} {g mf ms : Nat} {A : Option Addr} {c : Nat} {D : DSt}
theorem UO.ui {n : Nat} {U : List (Wr × Option Addr × Nat)} {us : List Wr} (h : UO n w A c U) (hv : U.map Prod.fst = us) {T : Nat → Prop} (hT : ∀ b, n ≤ b → b < w.heap.size → T b) : UI T w A c us :=
  ⟨U, hv, h.row.mono (Nat.zero_le _), fun b hb => hT b (h.row.blk_lt b hb).1 (h.row.blk_lt b hb).2, fun p hp => ⟨(h.dat p hp).base_le (Nat.zero_le _), fun b hb => hT b ((h.dat p hp).blk_lt b hb).1 ((h.dat p hp).blk_lt b hb).2⟩⟩
end
end Go.Proofs.YtjgonfnpfbifjaaGreatDoor
