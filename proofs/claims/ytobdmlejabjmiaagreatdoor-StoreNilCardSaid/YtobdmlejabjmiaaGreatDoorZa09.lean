/- Put together of: RowX, DskM, DiskQ, Iter, DskR, CrcN. -/
import Derived.Test.YtobdmlejabjmiaaGreatDoorZa04
import Derived.Test.YtobdmlejabjmiaaGreatDoorZa08
import Derived.Test.YtobdmlejabjmiaaGreatDoorZa07
import Derived.Laws.Bits64b
import Derived.Shelf.SlGeneric
import Derived.Shelf.SlIter.Nil
import Derived.Shelf.SortM.Plain
import Derived.Shelf.SortM.SortNone
import Derived.Ground.GgzProg
import Derived.Ground.SlgmProg
import Derived.Test.YtobdmlejabjmiaaGreatDoorProg
import Derived.Test.YtobdmlejabjmiaaGreatDoorZa03
import Derived.Lib.ItoaNum
import Derived.Laws.BitsAllLaws
/- A row of structs of the call's own: its beginning; a cell of it stored. -/
namespace Go.Proofs.YtobdmlejabjmiaaGreatDoor
open Go.RowKit

theorem flatten_set {α : Type} {k : Nat} : ∀ {rows : List (List α)}, (∀ r ∈ rows, r.length = k) → ∀ {i : Nat} {r : List α}, rows[i]? = some r → ∀ {j : Nat}, j < k → ∀ v, rows.flatten.set (i * k + j) v = (rows.set i (r.set j v)).flatten
  | [], _, i, r, h, _, _, _ => by simp at h
  | a :: l, hk, 0, r, h, j, hj, v => by
    simp only [List.getElem?_cons_zero, Option.some.injEq] at h
    subst h
    have := hk a (by simp)
    rw [Nat.zero_mul, Nat.zero_add, List.flatten_cons, List.set_cons_zero, List.flatten_cons, List.set_append_left _ _ (by omega)]
  | a :: l, hk, i + 1, r, h, j, hj, v => by
    have ha := hk a (by simp)
    simp only [List.getElem?_cons_succ] at h
    have ih := flatten_set (fun r hr => hk r (List.mem_cons_of_mem _ hr)) h hj v
    rw [List.flatten_cons, List.set_cons_succ, List.flatten_cons, ← ih, List.set_append_right _ _ (by rw [Nat.add_mul]; omega), show (i + 1) * k + j - a.length = i * k + j from by rw [Nat.add_mul]; omega]
section
variable {w : World} {base : Nat} {e : TypeId} {k c : Nat} {A : Option Addr} {rows : List (List Value)}
theorem OR.take (h : OR w base e k A c rows) (n : Nat) : OR w base e k A c (rows.take n) := by
  refine ⟨⟨?_, ?_⟩, fun r hr => h.2 r (List.mem_of_mem_take hr)⟩
  · rw [flatten_len (fun r hr => h.2 r (List.mem_of_mem_take hr))]
  · rcases h.1.2 with ⟨hv, hl⟩ | ⟨g, cap, cur, hv, hb, hg, hn, hm, hs, ht⟩
    · simp only [Value.slice.injEq] at hv
      obtain ⟨rfl, hl, rfl⟩ := hv
      have hr : rows = [] := List.eq_nil_of_length_eq_zero hl
      subst hr
      exact .inl ⟨by simp, by simp⟩
    · simp only [Value.slice.injEq] at hv
      obtain ⟨rfl, _, rfl⟩ := hv
      have hle : (rows.take n).length ≤ rows.length := by simp; omega
      refine .inr ⟨g, c, cur, rfl, hb, hg, by omega, hm, hs, ?_⟩
      rw [← flatten_take h.2, ← ht, List.take_take]
      congr 1
      rw [List.length_take]
      rcases Nat.le_total n rows.length with h1 | h1
      · rw [Nat.min_eq_left h1, Nat.min_eq_left (Nat.mul_le_mul_right _ h1)]
      · rw [Nat.min_eq_right h1, Nat.min_eq_right (Nat.mul_le_mul_right _ h1)]
theorem OR.stored {b : Nat} (h : OR w base e k (some ⟨b, 0, none⟩) c rows) {i : Nat} {r : List Value} (hi : rows[i]? = some r) {j : Nat} (hj : j < k) (v : Value) :
    OR (w.setCell ⟨b, i * k + j, none⟩ v) base e k (some ⟨b, 0, none⟩) c (rows.set i (r.set j v)) ∧ w.grownBy (w.setCell ⟨b, i * k + j, none⟩ v) (some b) := by
  obtain ⟨h1, h2⟩ := World.ownsRow.stored h.1 (i * k + j) v
  rw [flatten_set h.2 hi hj] at h1
  refine ⟨⟨by rw [List.length_set]; exact h1, fun q hq => ?_⟩, h2⟩
  rcases List.mem_or_eq_of_mem_set hq with hq | hq
  · exact h.2 q hq
  · subst hq
    rw [List.length_set]
    exact h.2 r (List.mem_of_getElem? hi)
theorem OR.free (h : OR w base e k A c rows) {b : Nat} (hA : A = some ⟨b, 0, none⟩) (j : Nat) : w.frozen? ⟨b, j, none⟩ = false := by
  obtain ⟨cs, hc⟩ := h.blk b (by rw [hA]; rfl)
  simp [World.frozen?, hc]
theorem OB.take {l : List UInt8} (h : OB w base A c l) (n : Nat) : OB w base A c (l.take n) := by
  refine ⟨by rw [bcells_length, Nat.mul_one], ?_⟩
  rcases h.2 with ⟨hv, hl⟩ | ⟨g, cap, cur, hv, hb, hg, hn, hm, hs, ht⟩
  · simp only [Value.slice.injEq] at hv
    obtain ⟨rfl, hl, rfl⟩ := hv
    have hr : l = [] := List.eq_nil_of_length_eq_zero hl
    subst hr
    exact .inl ⟨by simp, by simp⟩
  · simp only [Value.slice.injEq] at hv
    obtain ⟨rfl, _, rfl⟩ := hv
    have hle : (l.take n).length ≤ l.length := by simp; omega
    refine .inr ⟨g, c, cur, rfl, hb, hg, by omega, hm, hs, ?_⟩
    have e2 : bcells (l.take n) = (bcells l).take n := by unfold bcells; rw [List.map_take]
    rw [e2, ← ht, List.take_take, Nat.mul_one, Nat.mul_one, List.length_take]
end
end Go.Proofs.YtobdmlejabjmiaaGreatDoor


/- DskM: put together by merge.py of: DiskM, DiskN, DiskO, DiskP. -/
/- Contracts of package disk's change (all), Put, Cut, Remove, Room, Fuse, Down, Used. -/
namespace Go.Proofs.YtobdmlejabjmiaaGreatDoor
open Go.RowKit

section
variable {S : Nat → Prop} {w w' : World} {g mf ms : Nat} {A : Option Addr} {c : Nat} {D : DSt}
theorem diskChange (kind : Int) (name : Nm) (off : Int) (data : List UInt8) (Y : Option Addr) (cy : Nat) (h : DI S w g D) (hY : RB w Y data) (hYM : 0 < data.length → ∀ b, Y.map (·.block) = some b → ¬ S b) (hcnt : D.cnt ≤ 1000000) (hs : name.length ≤ 9223372036854775807) (ho : -9223372036854775808 ≤ off ∧ off ≤ 9223372036854775807) (hdl : data.length ≤ 140737488355328) (hk : kind = 1 ∨ kind = 2 ∨ kind = 3) (hdat : kind ≠ 1 → data = []) :
    Calls Tryz.prog 74 #[.pointer (some ⟨g, 0, none⟩), .agg #[.int .i64 kind, .string ⟨name.toArray⟩, .int .i64 off, .slice Y data.length cy]] w (PDone S w g (changeD D ⟨kind, name, off.toNat, data⟩ off).2 (.int .i64 (changeD D ⟨kind, name, off.toNat, data⟩ off).1)) := by
  obtain ⟨mf, ms, A, c, hr⟩ := h
  have h : DI S w g D := ⟨mf, ms, A, c, hr⟩
  cases hd : D.down
  · by_cases hb : nameOk name = false ∨ off < 0 ∨ 4194304 < off
    · refine (diskChange_bad ⟨kind, name, off.toNat, data⟩ off Y cy h hd hs ho hb).mono ?_
      rintro e w' ⟨rfl, hb'⟩
      rw [changeD_err _ _ _ (refuse_bad hd hb) (by decide)]
      exact hr.same hb' _
    · have hn : nameOk name = true := by
        cases hn : nameOk name
        · exact absurd (.inl hn) hb
        · rfl
      obtain ⟨on, rfl⟩ : ∃ on : Nat, off = (on : Int) := ⟨off.toNat, by omega⟩
      exact diskChange_good kind name on data Y cy hr hY hYM hcnt hd hs (by omega) hdl hk hdat hn
  · refine (diskChange_down ⟨kind, name, off.toNat, data⟩ off Y cy h hd).mono ?_
    rintro e w' ⟨rfl, hb⟩
    rw [changeD_err _ _ _ (refuse_down hd) (by decide)]
    exact hr.same hb _
set_option maxHeartbeats 1000000 in
theorem diskPutC (name : Nm) (off : Int) (data : List UInt8) (Y : Option Addr) (cy : Nat) (h : DI S w g D) (hY : RB w Y data) (hYM : 0 < data.length → ∀ b, Y.map (·.block) = some b → ¬ S b) (hcnt : D.cnt ≤ 1000000) (hs : name.length ≤ 9223372036854775807) (ho : -9223372036854775808 ≤ off ∧ off ≤ 9223372036854775807) (hdl : data.length ≤ 140737488355328) :
    Calls Tryz.prog 89 #[.pointer (some ⟨g, 0, none⟩), .string ⟨name.toArray⟩, .int .i64 off, .slice Y data.length cy] w (PDone S w g (changeD D ⟨1, name, off.toNat, data⟩ off).2 (.int .i64 (changeD D ⟨1, name, off.toNat, data⟩ off).1)) := by
  have C := Lib.hid (diskChange 1 name off data Y cy h hY hYM hcnt hs ho hdl (.inl rfl) (fun h => absurd rfl h))
  clear h hY hYM
  go_enter Tryz.func89, Tryz.ntmps89
  go_wp2_with fail
  with_reducible refine C.out.mono ?_
  rintro e w' ⟨rfl, h⟩
  go_wp2_with fail
  go_ret
  exact ⟨rfl, h⟩
set_option maxHeartbeats 1000000 in
theorem diskRemoveC (name : Nm) (h : DI S w g D) (hcnt : D.cnt ≤ 1000000) (hs : name.length ≤ 9223372036854775807) :
    Calls Tryz.prog 31 #[.pointer (some ⟨g, 0, none⟩), .string ⟨name.toArray⟩] w (PDone S w g (changeD D ⟨3, name, 0, []⟩ 0).2 (.int .i64 (changeD D ⟨3, name, 0, []⟩ 0).1)) := by
  have C := Lib.hid (diskChange 3 name 0 [] none 0 h RB.nil (fun h => absurd h (by simp)) hcnt hs (by omega) (by simp) (.inr (.inr rfl)) (fun _ => rfl))
  rw [List.length_nil] at C
  clear h
  go_enter Tryz.func31, Tryz.ntmps31
  go_wp2_with fail
  with_reducible refine C.out.mono ?_
  rintro e w' ⟨rfl, h⟩
  go_wp2_with fail
  go_ret
  exact ⟨rfl, h⟩
/-- A store into the disk's own variable. -/
theorem DR.var {D' : DSt} (h : DR S w g mf ms A c D) (hs : w.heap.size ≤ w'.heap.size) (hk : ∀ b, b ≠ g → w'.heap[b]? = w.heap[b]?) (hb : Blk w' g 66 #[.map (some mf), .map (some ms), .slice A D.unsure.length c, .int .i64 D'.room, .int .i64 D'.fuse, .bool D'.down]) (h1 : D'.sure = D.sure) (h2 : D'.unsure = D.unsure) (hok : D'.ok) : DR S w' g mf ms A c D' :=
  ⟨by rw [h2]; exact hb, by unfold DSt.files; rw [h1, h2]; exact h.fi.of_var h.blk (by decide) hk, by rw [h1]; exact h.si.of_var h.blk (by decide) hk, h.ne, by rw [h2]; exact h.ui.of_var h.blk (by decide) (by decide) hk, h.sg, hok, fun b hb => Nat.lt_of_lt_of_le (h.bnd b hb) hs⟩
/-- What Room and Fuse answer, and what is behind them. -/
def roomD (D : DSt) (n : Int) : Int × DSt := if n < 0 ∨ 4194304 < n then (1, D) else (0, { D with room := n })
def fuseD (D : DSt) (n : Int) : Int × DSt := if n < 0 then (1, D) else (0, { D with fuse := n })
set_option maxHeartbeats 1000000 in
theorem diskDownC (h : DI S w g D) : Calls Tryz.prog 57 #[.pointer (some ⟨g, 0, none⟩)] w fun e w' => e = .returned (.bool D.down) ∧ w = w' := by
  obtain ⟨mf, ms, A, c, hr⟩ := h
  have c5 := hr.blk.cell 5 rfl
  clear hr
  go_enter Tryz.func57, Tryz.ntmps57
  go_wp2_with fail
  go_ret
  exact ⟨rfl, rfl⟩
end
end Go.Proofs.YtobdmlejabjmiaaGreatDoor
/- Contracts of package disk's Sync, Read, Unsure. -/
namespace Go.Proofs.YtobdmlejabjmiaaGreatDoor
open Go.RowKit

section
variable {S : Nat → Prop} {w w' : World} {g mf ms : Nat} {A : Option Addr} {c : Nat} {D : DSt}
set_option maxRecDepth 20000 in
set_option maxHeartbeats 4000000 in
theorem diskSyncC (h : DI S w g D) (hcnt : D.cnt ≤ 1000000) : Calls Tryz.prog 90 #[.pointer (some ⟨g, 0, none⟩)] w (PDone S w g (syncD D).2 (.int .i64 (syncD D).1)) := by
  have AL := Lib.hid (diskAlive h)
  obtain ⟨mf, ms, A, c, h⟩ := h
  cases hd : D.down
  · rw [if_neg (by rw [hd]; simp)] at AL
    have HB := Lib.hid (diskBurn h)
    have HH := Lib.hid h
    have hmg := h.sg
    cases hbd : (burnD D).down
    · have hsy : syncD D = (0, { burnD D with sure := D.files, unsure := [] }) := by unfold syncD; rw [hd, hbd]; rfl
      rw [hsy]
      rw [hbd] at HB
      have HBD := Lib.hid hbd
      clear h hsy hbd hd
      go_enter Tryz.func90, Tryz.ntmps90
      go_wp2_with fail
      refine AL.out.mono ?_
      rintro e w1 ⟨rfl, rfl⟩
      go_wp2_with fail
      refine HB.out.mono ?_
      rintro e w2 ⟨rfl, h2, hm2⟩
      have CL := Lib.hid (diskClone w2 h2.fi (fun k l hk => by have := h2.ok.files k l hk; omega))
      have c0 := h2.blk.cell 0 rfl
      have H2 := Lib.hid h2
      clear h2 AL HB
      go_wp2_with fail
      refine CL.out.mono ?_
      rintro e w3 ⟨rfl, hf3, hb3⟩
      have H3 := Lib.hid (H2.out.below hb3)
      have c1 := H3.out.blk.cell 1 rfl
      have c2' := H3.out.blk.cell 2 rfl
      have f1 := H3.out.blk.free 1
      have f2 := H3.out.blk.free 2
      have HFIN : Hid (PDone S w g { burnD D with sure := D.files, unsure := [] } (.int .i64 0) (.returned (.int .i64 0)) ((w3.setCell ⟨g, 1, none⟩ (.map (some w2.heap.size))).setCell ⟨g, 2, none⟩ (.slice none 0 0))) := Lib.hid (by
        have hkb : ∀ b, b ≠ g → ((w3.setCell ⟨g, 1, none⟩ (.map (some w2.heap.size))).setCell ⟨g, 2, none⟩ (.slice none 0 0)).heap[b]? = w3.heap[b]? := fun b hb => by rw [Below.heap_setCell _ _ _ b hb, Below.heap_setCell _ _ _ b hb]
        have hsz3 : ((w3.setCell ⟨g, 1, none⟩ (.map (some w2.heap.size))).setCell ⟨g, 2, none⟩ (.slice none 0 0)).heap.size = w3.heap.size := by simp
        have hbk := (H3.out.blk.setCell 1 (.map (some w2.heap.size))).setCell 2 (.slice none 0 0)
        have hs2 := hm2.size
        have hs3 := hb3.size
        refine ⟨rfl, ⟨mf, w2.heap.size, none, 0, ?_, ?_, ?_, ?_, UI.nil _ _, .inl hmg, ?_, fun b hb => ?_⟩, ((Mods.below (hm2.mono fun b _ hb => by subst hb; exact hmg) hb3).setCell _ (.inl hmg) _).setCell _ (.inl hmg) _⟩
        · exact hbk
        · show FI _ _ _ (List.foldl doF D.files [])
          have := (H3.out.fi.mono (T := Sx S w ((w3.setCell ⟨g, 1, none⟩ (.map (some w2.heap.size))).setCell ⟨g, 2, none⟩ (.slice none 0 0))) fun b _ hb => .inl hb).of_var H3.out.blk (by decide) hkb
          rw [burnD_files] at this
          exact this
        · have := (hf3.mono (T := Sx S w ((w3.setCell ⟨g, 1, none⟩ (.map (some w2.heap.size))).setCell ⟨g, 2, none⟩ (.slice none 0 0))) fun b _ hb => .inr ⟨by have := hb.1; omega, by rw [hsz3]; exact hb.2⟩).of_var H3.out.blk (by decide) hkb
          rw [burnD_files] at this
          exact this
        · have := H2.out.fi.at_
          obtain ⟨es, hm⟩ := this
          have := hm.lt
          omega
        · exact ⟨(burnD_ok HH.out.ok).1, (burnD_ok HH.out.ok).2.1, HH.out.ok.files, by simp⟩
        · rcases hb with hb | hb
          · have := HH.out.bnd b hb; rw [hsz3]; omega
          · exact hb.2)
      clear hf3 hb3 H2 H3 CL hm2 c0 HBD HH
      go_wp2_with fail
      go_ret
      exact HFIN.out
    · have hsy : syncD D = (11, burnD D) := by unfold syncD; rw [hd, hbd]; rfl
      rw [hsy]
      rw [hbd] at HB
      clear h hsy hbd hd
      go_enter Tryz.func90, Tryz.ntmps90
      go_wp2_with fail
      refine AL.out.mono ?_
      rintro e w1 ⟨rfl, rfl⟩
      go_wp2_with fail
      refine HB.out.mono ?_
      rintro e w2 ⟨rfl, h2, hm2⟩
      have HF : Hid (PDone S w g (burnD D) (.int .i64 11) (.returned (.int .i64 11)) w2) := Lib.hid ⟨rfl, h2.sx hm2.size HH.out.bnd, hm2.mono fun b _ hb => by subst hb; exact hmg⟩
      clear h2 hm2 HB AL HH
      go_wp2_with fail
      go_ret
      exact HF.out
  · rw [if_pos hd] at AL
    have hsy : syncD D = (11, D) := by unfold syncD; rw [hd]; rfl
    rw [hsy]
    have HF := Lib.hid (h.same (Below.refl _ _) (.int .i64 11))
    clear h hsy hd
    go_enter Tryz.func90, Tryz.ntmps90
    go_wp2_with fail
    refine AL.out.mono ?_
    rintro e w1 ⟨rfl, rfl⟩
    go_wp2_with fail
    go_ret
    exact HF.out

set_option maxRecDepth 20000 in
set_option maxHeartbeats 4000000 in
theorem diskReadC (name : Nm) (h : DI S w g D) (hn : name.length ≤ 9223372036854775807) : Calls Tryz.prog 59 #[.pointer (some ⟨g, 0, none⟩), .string ⟨name.toArray⟩] w (ReadEnd w D name) := by
  have AL := Lib.hid (diskAlive h)
  obtain ⟨mf, ms, A, c, h⟩ := h
  cases hd : D.down
  · rw [if_neg (by rw [hd]; simp)] at AL
    have NM := Lib.hid (diskNamed ⟨name.toArray⟩ w (by simpa [ByteArray.size] using hn))
    cases hno : nameOk name
    · rw [show nameOk (⟨name.toArray⟩ : ByteArray).data.toList = false from hno] at NM
      have HE : Hid (readE D name = 1) := Lib.hid (by unfold readE; rw [hd, hno]; rfl)
      clear h hd hno
      go_enter Tryz.func59, Tryz.ntmps59
      go_wp2_with fail
      refine AL.out.mono ?_
      rintro e w1 ⟨rfl, rfl⟩
      go_wp2_with fail
      refine NM.out.mono ?_
      rintro e w2 ⟨rfl, hb⟩
      clear AL NM
      go_wp2_with fail
      go_ret2
      exact readEnd_err HE.out (by decide) hb
    · rw [show nameOk (⟨name.toArray⟩ : ByteArray).data.toList = true from hno] at NM
      obtain ⟨es, hmap, ht, _, _⟩ := h.fi
      obtain ⟨Ao, co, hrb, hl⟩ := ht.look2 (m := mf) name
      have HMAP := Lib.hid hmap
      have HL := Lib.hid hl
      have HRB := Lib.hid hrb
      have HBL := Lib.hid h.blk
      have HRE : Hid (∀ b, (fget D.files name).isSome = b → readE D name = if b = true then 0 else 8) := Lib.hid fun b hb => by unfold readE; rw [hd, hno, hb]; rfl
      have hol : ((fget D.files name).getD []).length ≤ 4194304 := by
        cases hg : fget D.files name with
        | none => simp
        | some l => exact h.ok.files _ _ hg
      have HOL : Hid (∃ l, (fget D.files name).getD [] = l) := Lib.hid ⟨_, rfl⟩
      clear h hd hno hmap ht hl hrb
      obtain ⟨old, hold⟩ := HOL.out
      rw [hold] at HL HRB hol
      have HOLD := Lib.hid hold
      clear hold HOL
      cases hse : (fget D.files name).isSome
      · have HE : Hid (readE D name = 8) := Lib.hid (by rw [HRE.out false hse]; rfl)
        rw [hse] at HL
        clear hse HRE
        go_enter Tryz.func59, Tryz.ntmps59
        go_wp2_with fail
        refine AL.out.mono ?_
        rintro e w1 ⟨rfl, rfl⟩
        go_wp2_with fail
        refine NM.out.mono ?_
        rintro e w2 ⟨rfl, hb⟩
        have c0 := (HBL.out.kept hb).cell 0 rfl
        have hlk := HL.out w2 (HMAP.out.below hb)
        clear AL NM
        go_wp2_with fail
        go_ret2
        exact readEnd_err HE.out (by decide) hb
      · have HE : Hid (readE D name = 0) := Lib.hid (by rw [HRE.out true hse]; rfl)
        have HB : Hid (readB D name = old) := Lib.hid (by unfold readB; rw [HE.out, if_pos rfl, HOLD.out])
        rw [hse] at HL
        clear hse HRE
        go_enter Tryz.func59, Tryz.ntmps59
        go_wp2_with fail
        refine AL.out.mono ?_
        rintro e w1 ⟨rfl, rfl⟩
        go_wp2_with fail
        refine NM.out.mono ?_
        rintro e w2 ⟨rfl, hb⟩
        have c0 := (HBL.out.kept hb).cell 0 rfl
        have hlk := HL.out w2 (HMAP.out.below hb)
        have CL := Lib.hid (cloneB' Ao co old w2 (HRB.out.below hb) (by omega))
        clear AL NM
        go_wp2_with fail
        refine CL.out.mono ?_
        rintro e w3 ⟨A', c', rfl, ho, hb3⟩
        have HF : Hid (ReadEnd w D name (.returned (.tuple #[.slice A' old.length c', .int .i64 0])) w3) := Lib.hid ⟨A', c', by rw [HB.out, HE.out], by rw [HB.out]; exact ho.base_le hb.size, hb.trans (hb3.mono hb.size)⟩
        clear CL ho hb3 hb HMAP HL HRB HBL
        go_wp2_with fail
        go_ret2
        exact HF.out
  · rw [if_pos hd] at AL
    have HE : Hid (readE D name = 11) := Lib.hid (by unfold readE; rw [hd]; rfl)
    clear h hd
    go_enter Tryz.func59, Tryz.ntmps59
    go_wp2_with fail
    refine AL.out.mono ?_
    rintro e w1 ⟨rfl, rfl⟩
    go_wp2_with fail
    go_ret2
    exact readEnd_err HE.out (by decide) (Below.refl _ _)
end
end Go.Proofs.YtobdmlejabjmiaaGreatDoor
/- Contract of package disk's Unsure. -/
namespace Go.Proofs.YtobdmlejabjmiaaGreatDoor
open Go.RowKit

/-- Changes of the call's own. -/
structure UO (n : Nat) (w : World) (A : Option Addr) (c : Nat) (U : List (Wr × Option Addr × Nat)) : Prop where
  row : OR w n 94 4 A c (U.map wrRow)
  dat : ∀ p ∈ U, OB w n p.2.1 p.2.2 p.1.data
theorem UO.below {n c : Nat} {w w' : World} {A : Option Addr} {U : List (Wr × Option Addr × Nat)} (h : UO n w A c U) (hb : Below w.heap.size w w') : UO n w' A c U := ⟨h.row.below hb, fun p hp => (h.dat p hp).below hb⟩
def NewU (w : World) (us : List Wr) (e : Ending) (w' : World) : Prop :=
  ∃ (A : Option Addr) (c : Nat) (U : List (Wr × Option Addr × Nat)), e = .returned (.slice A U.length c) ∧ Hid (U.map Prod.fst = us) ∧ UO w.heap.size w' A c U ∧ Below w.heap.size w w'
section
variable {S : Nat → Prop} {w w' : World} {g mf ms : Nat} {A : Option Addr} {c : Nat} {D : DSt}
end
end Go.Proofs.YtobdmlejabjmiaaGreatDoor
/- Contract of package disk's Copy. -/
namespace Go.Proofs.YtobdmlejabjmiaaGreatDoor
open Go.RowKit

section
variable {S : Nat → Prop} {w w' : World} {g mf ms : Nat} {A : Option Addr} {c : Nat} {D : DSt}
theorem UO.ui {n : Nat} {U : List (Wr × Option Addr × Nat)} {us : List Wr} (h : UO n w A c U) (hv : U.map Prod.fst = us) {T : Nat → Prop} (hT : ∀ b, n ≤ b → b < w.heap.size → T b) : UI T w A c us :=
  ⟨U, hv, h.row.mono (Nat.zero_le _), fun b hb => hT b (h.row.blk_lt b hb).1 (h.row.blk_lt b hb).2, fun p hp => ⟨(h.dat p hp).base_le (Nat.zero_le _), fun b hb => hT b ((h.dat p hp).blk_lt b hb).1 ((h.dat p hp).blk_lt b hb).2⟩⟩
end
end Go.Proofs.YtobdmlejabjmiaaGreatDoor


/- Contract of package disk's Fall. -/
namespace Go.Proofs.YtobdmlejabjmiaaGreatDoor
open Go.RowKit

section
variable {S : Nat → Prop} {w w' : World} {g mf ms : Nat} {A : Option Addr} {c : Nat} {D : DSt}
end
end Go.Proofs.YtobdmlejabjmiaaGreatDoor


/- slices.Sorted(maps.Keys(m)) at this dump: contracts of the shelf, laid by the kit's tools. -/
namespace Go.Proofs
open Go.RowKit Go.Maps Go.Sort Go.Shelf
def Tryz.keys73_ren : Go.Shelf.Ren := ⟨fun | 7 => 73 | 10 => 137 | n => n, fun | 23 => 63 | 26 => 9 | 3 => 34 | 28 => 133 | 0 => 0 | 27 => 132 | 33 => 116 | 4 => 4 | n => n, fun | n => n⟩
theorem Tryz.keys73 : Go.Proofs.SlLaysZ.n7 Tryz.prog Tryz.keys73_ren := {
  mixed := by kernel_rfl
  f7 := ⟨Tryz.f73.name, by decide, Tryz.func73.trans (congrArg some (by kernel_rfl))⟩
  f10 := ⟨Tryz.f137.name, by decide, Tryz.func137.trans (congrArg some (by kernel_rfl))⟩
  t0 := Tryz.underlying0
  a0 := Tryz.isAgg0
  z0 := Tryz.sizeOf0
  v0 := Tryz.zeroValue0
  t4 := Tryz.underlying4
  a4 := Tryz.isAgg4
  z4 := Tryz.sizeOf4
  v4 := Tryz.zeroValue4
  t23 := Tryz.underlying63
  a23 := Tryz.isAgg63
  z23 := Tryz.sizeOf63
  v23 := Tryz.zeroValue63
  t26 := Tryz.underlying9
  a26 := Tryz.isAgg9
  z26 := Tryz.sizeOf9
  v26 := Tryz.zeroValue9
  t27 := Tryz.underlying132
  a27 := Tryz.isAgg132
  z27 := Tryz.sizeOf132
  v27 := Tryz.zeroValue132
  t28 := Tryz.underlying133
  a28 := Tryz.isAgg133
  z28 := Tryz.sizeOf133
  v28 := Tryz.zeroValue133
  t33 := Tryz.underlying116
  a33 := Tryz.isAgg116
  z33 := Tryz.sizeOf116
  v33 := Tryz.zeroValue116 }
def Tryz.sorted72_ren : Go.Shelf.Ren := ⟨fun | 6 => 72 | 8 => 135 | 9 => 136 | 11 => 188 | 13 => 131 | 12 => 189 | 23 => 187 | 24 => 155 | 14 => 221 | 15 => 222 | 16 => 223 | 17 => 224 | 18 => 225 | 19 => 226 | 20 => 227 | 21 => 228 | 22 => 229 | 25 => 247 | 26 => 217 | 27 => 218 | 28 => 248 | 29 => 249 | 30 => 250 | 31 => 257 | n => n, fun | 26 => 9 | 28 => 133 | 24 => 79 | 0 => 0 | 3 => 3 | 37 => 206 | 48 => 198 | 50 => 23 | 4 => 4 | 40 => 250 | 39 => 249 | 45 => 254 | 5 => 5 | 9 => 9 | 51 => 279 | 55 => 282 | 57 => 303 | 58 => 304 | 33 => 116 | n => n, fun | n => n⟩
theorem Tryz.sorted72 : Go.Proofs.SlLaysZ.n6 Tryz.prog Tryz.sorted72_ren := {
  mixed := by kernel_rfl
  f6 := ⟨Tryz.f72.name, by decide, Tryz.func72.trans (congrArg some (by kernel_rfl))⟩
  f8 := ⟨Tryz.f135.name, by decide, Tryz.func135.trans (congrArg some (by kernel_rfl))⟩
  f11 := ⟨Tryz.f188.name, by decide, Tryz.func188.trans (congrArg some (by kernel_rfl))⟩
  t0 := Tryz.underlying0
  a0 := Tryz.isAgg0
  z0 := Tryz.sizeOf0
  v0 := Tryz.zeroValue0
  t24 := Tryz.underlying79
  a24 := Tryz.isAgg79
  z24 := Tryz.sizeOf79
  v24 := Tryz.zeroValue79
  t26 := Tryz.underlying9
  a26 := Tryz.isAgg9
  z26 := Tryz.sizeOf9
  v26 := Tryz.zeroValue9
  t28 := Tryz.underlying133
  a28 := Tryz.isAgg133
  z28 := Tryz.sizeOf133
  v28 := Tryz.zeroValue133
  i26 := by kernel_rfl }
def Tryz.sort136_ren : Go.Shelf.Ren := ⟨fun | 6 => 136 | 8 => 131 | 9 => 189 | 19 => 187 | 20 => 155 | 21 => 221 | 22 => 222 | 23 => 223 | 24 => 224 | 25 => 225 | 26 => 226 | 27 => 227 | 28 => 228 | 29 => 229 | 36 => 247 | 31 => 217 | 32 => 218 | 37 => 248 | 38 => 249 | 39 => 250 | 41 => 257 | n => n, fun | 27 => 79 | 29 => 9 | 3 => 3 | 32 => 206 | 26 => 79 | 0 => 0 | 44 => 198 | 46 => 23 | 4 => 4 | 36 => 250 | 35 => 249 | 41 => 254 | 5 => 5 | 9 => 9 | 53 => 279 | 57 => 282 | 63 => 303 | 64 => 304 | n => n, fun | n => n⟩
theorem Tryz.sort136 : Go.Proofs.SlLaysM.n6 Tryz.prog Tryz.sort136_ren := {
  mixed := by kernel_rfl
  f6 := ⟨Tryz.f136.name, by decide, Tryz.func136.trans (congrArg some (by kernel_rfl))⟩
  f8 := Tryz.func131.trans (congrArg some (by kernel_rfl))
  f9 := ⟨Tryz.f189.name, by decide, Tryz.func189.trans (congrArg some (by kernel_rfl))⟩
  f19 := Tryz.func187.trans (congrArg some (by kernel_rfl))
  f20 := Tryz.func155.trans (congrArg some (by kernel_rfl))
  f21 := ⟨Tryz.f221.name, by decide, Tryz.func221.trans (congrArg some (by kernel_rfl))⟩
  f22 := ⟨Tryz.f222.name, by decide, Tryz.func222.trans (congrArg some (by kernel_rfl))⟩
  f23 := ⟨Tryz.f223.name, by decide, Tryz.func223.trans (congrArg some (by kernel_rfl))⟩
  f24 := ⟨Tryz.f224.name, by decide, Tryz.func224.trans (congrArg some (by kernel_rfl))⟩
  f25 := ⟨Tryz.f225.name, by decide, Tryz.func225.trans (congrArg some (by kernel_rfl))⟩
  f26 := ⟨Tryz.f226.name, by decide, Tryz.func226.trans (congrArg some (by kernel_rfl))⟩
  f27 := ⟨Tryz.f227.name, by decide, Tryz.func227.trans (congrArg some (by kernel_rfl))⟩
  f28 := ⟨Tryz.f228.name, by decide, Tryz.func228.trans (congrArg some (by kernel_rfl))⟩
  f29 := ⟨Tryz.f229.name, by decide, Tryz.func229.trans (congrArg some (by kernel_rfl))⟩
  f31 := Tryz.func217.trans (congrArg some (by kernel_rfl))
  f32 := Tryz.func218.trans (congrArg some (by kernel_rfl))
  f36 := ⟨Tryz.f247.name, by decide, Tryz.func247.trans (congrArg some (by kernel_rfl))⟩
  f37 := ⟨Tryz.f248.name, by decide, Tryz.func248.trans (congrArg some (by kernel_rfl))⟩
  f38 := ⟨Tryz.f249.name, by decide, Tryz.func249.trans (congrArg some (by kernel_rfl))⟩
  f39 := ⟨Tryz.f250.name, by decide, Tryz.func250.trans (congrArg some (by kernel_rfl))⟩
  f41 := ⟨Tryz.f257.name, by decide, Tryz.func257.trans (congrArg some (by kernel_rfl))⟩
  t0 := Tryz.underlying0
  a0 := Tryz.isAgg0
  z0 := Tryz.sizeOf0
  v0 := Tryz.zeroValue0
  t3 := Tryz.underlying3
  a3 := Tryz.isAgg3
  z3 := Tryz.sizeOf3
  v3 := Tryz.zeroValue3
  t4 := Tryz.underlying4
  a4 := Tryz.isAgg4
  z4 := Tryz.sizeOf4
  v4 := Tryz.zeroValue4
  t5 := Tryz.underlying5
  a5 := Tryz.isAgg5
  z5 := Tryz.sizeOf5
  v5 := Tryz.zeroValue5
  t9 := Tryz.underlying9
  a9 := Tryz.isAgg9
  z9 := Tryz.sizeOf9
  v9 := Tryz.zeroValue9
  t26 := Tryz.underlying79
  a26 := Tryz.isAgg79
  z26 := Tryz.sizeOf79
  v26 := Tryz.zeroValue79
  t27 := Tryz.underlying79
  a27 := Tryz.isAgg79
  z27 := Tryz.sizeOf79
  v27 := Tryz.zeroValue79
  t29 := Tryz.underlying9
  a29 := Tryz.isAgg9
  z29 := Tryz.sizeOf9
  v29 := Tryz.zeroValue9
  t32 := Tryz.underlying206
  a32 := Tryz.isAgg206
  z32 := Tryz.sizeOf206
  v32 := Tryz.zeroValue206
  t35 := Tryz.underlying249
  a35 := Tryz.isAgg249
  z35 := Tryz.sizeOf249
  v35 := Tryz.zeroValue249
  t36 := Tryz.underlying250
  a36 := Tryz.isAgg250
  z36 := Tryz.sizeOf250
  v36 := Tryz.zeroValue250
  t41 := Tryz.underlying254
  a41 := Tryz.isAgg254
  z41 := Tryz.sizeOf254
  v41 := Tryz.zeroValue254
  t44 := Tryz.underlying198
  a44 := Tryz.isAgg198
  z44 := Tryz.sizeOf198
  v44 := Tryz.zeroValue198
  t46 := Tryz.underlying23
  a46 := Tryz.isAgg23
  z46 := Tryz.sizeOf23
  v46 := Tryz.zeroValue23
  t53 := Tryz.underlying279
  a53 := Tryz.isAgg279
  z53 := Tryz.sizeOf279
  v53 := Tryz.zeroValue279
  t57 := Tryz.underlying282
  a57 := Tryz.isAgg282
  z57 := Tryz.sizeOf282
  v57 := Tryz.zeroValue282
  t63 := Tryz.underlying303
  a63 := Tryz.isAgg303
  z63 := Tryz.sizeOf303
  v63 := Tryz.zeroValue303
  t64 := Tryz.underlying304
  a64 := Tryz.isAgg304
  z64 := Tryz.sizeOf304
  v64 := Tryz.zeroValue304 }
theorem Tryz.sorts72 (m : Nat) : AnyZ.SortsIn Tryz.prog Tryz.sorted72_ren Fence.wide m :=
  ⟨fun blk off cap ss W hH hblk hsz => callsIn_wide.2 (AnyM.slices_Sort_string Tryz.sort136 blk off cap ss W hH hblk hsz),
   fun p cap W => callsIn_wide.2 (AnyM.slices_Sort_string_none Tryz.sort136 p cap W)⟩

theorem Tryz.maps_Keys_73 (mb : Option Nat) (W : World) : CallsIn Fence.wide 5 Tryz.prog 73 #[.map mb] W fun e w' => e = .returned (.func (.func 137) #[] #[.pointer (some ⟨W.heap.size, 0, none⟩)]) ∧ w' = W.alloc (.cells #[.map mb] 63) :=
  AnyZ.keys_in Tryz.keys73 Fence.wide 5 trivial rfl mb W

set_option maxHeartbeats 1000000 in
theorem Tryz.slices_Sorted_keys_72_73 {H : Type} (b nn : Nat) (D0 : DataW H) (R : Value → Option (DataW H × List MemPlace)) (w : World) (hown : w.ownsMap Tryz.prog 9 R b nn D0) (hmax : Maps.size D0 ≤ maxLen) (hbytes : Maps.size D0 * 16 ≤ 140737488355328) :
    CallsIn Fence.wide 5 Tryz.prog 72 #[.func (.func 137) #[] #[.pointer (some ⟨w.heap.size, 0, none⟩)]] (w.alloc (.cells #[.map (some b)] 63)) fun e w' => ∃ (v : Value) (ss : List (List UInt8)), e = .returned v ∧ ss.Perm (strKeys D0) ∧
      w'.ownsRow (w.alloc (.cells #[.map (some b)] 63)).heap.size 9 1 v ss.length ((ss.mergeSort (fun x y => decide (x ≤ y))).map encStr) ∧ (v = .slice none 0 0 ↔ ss = []) ∧ Below (w.alloc (.cells #[.map (some b)] 63)).heap.size (w.alloc (.cells #[.map (some b)] 63)) w' := by
  have hbl := hown.lt
  have hseq : SeqGives Fence.wide 2 Tryz.prog 137 #[.pointer (some ⟨w.heap.size, 0, none⟩)] encStr (fun ss => ss.Perm (strKeys D0)) (Maps.size D0) (w.alloc (.cells #[.map (some b)] 63)) :=
    AnyZ.keys_gives (ρ := Tryz.keys73_ren) { Tryz.keys73 with } Fence.wide _ trivial rfl (by omega) w.heap.size b nn D0 _ (by simp) (by simp) (by
      obtain ⟨es, clock, hb, Ft, hs, hD⟩ := hown
      exact ⟨es, clock, (Below.heap_alloc _ _ b hbl).trans hb, Ft, hs, hD⟩)
  exact AnyZ.sorted_in Tryz.sorted72 Fence.wide 5 trivial trivial trivial trivial rfl (by omega) (Tryz.sorts72 _) (enters_of Tryz.func136 (by kernel_rfl) rfl) 137 #[.pointer (some ⟨w.heap.size, 0, none⟩)] trivial (enters_of Tryz.func137 (by kernel_rfl) rfl) _ _ hmax hbytes _ hseq

end Go.Proofs


/- DskR: put together by merge.py of: DiskR, DiskNilC, DiskT. -/
/- Contract of package disk's Names. -/
namespace Go.Proofs.YtobdmlejabjmiaaGreatDoor
open Go.RowKit

section
variable {w : World} {m : Nat} {es : List (Nm × Value)}
/-- How a map's values are read where only its keys are asked. -/
def anyV (_ : Value) : Option (DataW Unit × List MemPlace) := some (.lit (.bool true), [])
theorem MapAt.owns (h : MapAt encStr w m es) (hl : ∀ p ∈ es, p.1.length ≤ 9223372036854775807) (hs : es.length ≤ 1000000) :
    ∃ D0 : DataW Unit, w.ownsMap Tryz.prog 9 anyV m es.length D0 ∧ Maps.size D0 = es.length ∧ (strKeys D0).Perm (es.map Prod.fst) := by
  obtain ⟨L, clock, rfl, hm, hn, hb, hc⟩ := h
  have hrd : ∀ p ∈ L, WideElems.rd Tryz.prog 9 anyV (ent encStr p) = some (.string p.1, .lit (.bool true)) := fun p hp => by
    have hlp := hl (p.1, p.2.1) (List.mem_map.2 ⟨p, hp, rfl⟩)
    unfold WideElems.rd
    have : keyOf Tryz.prog 9 (ent encStr p).key = some (.string p.1) := by
      have := WideMaps.keyOf_string_mk (P := Tryz.prog) (k := 9) Tryz.underlying9 (s := ⟨p.1.toArray⟩) (by unfold maxLen; simpa [ByteArray.size] using hlp)
      exact this
    rw [this]
    rfl
  have hrg : ∀ p ∈ L, WideElems.rg Tryz.prog 9 anyV (ent encStr p) = (.string p.1, .lit (.bool true)) := fun p hp => WideElems.rg_of (hrd p hp)
  refine ⟨_, ⟨_, clock, hm, ⟨by simp only [List.size_toArray, List.length_map] at hs ⊢; unfold maxLen; omega, ⟨fun x hx => ?_, ?_, ?_⟩, fun x hx => ?_⟩, by simp, rfl⟩, ?_, ?_⟩
  · obtain ⟨p, hp, rfl⟩ := List.mem_map.1 hx
    exact hc p hp
  · simpa [ent, Function.comp_def] using hb
  · have := hn
    rw [List.map_map]
    have e : (fun p : Ent Nm => encStr p.1) = encStr ∘ (·.1) := rfl
    show (L.map (fun p => encStr p.1)).Nodup
    rw [e, ← List.map_map]
    exact (List.pairwise_map.2 (hn.imp fun {a b} hne e => hne (encStr_inj e)))
  · obtain ⟨p, hp, rfl⟩ := List.mem_map.1 hx
    exact ⟨_, hrd p hp⟩
  · show ((((L.map (ent encStr)).toArray.toList.map (WideElems.rg Tryz.prog 9 anyV)).foldr DataW.insert []).length) = _
    rw [length_sorted]
    simp
  · show (((((L.map (ent encStr)).toArray.toList.map (WideElems.rg Tryz.prog 9 anyV)).foldr DataW.insert []).map fun p => strOf p.1)).Perm _
    refine ((WideShapes.sorted_perm _).map _).trans ?_
    rw [List.map_map, List.map_map, List.map_map]
    refine List.Perm.of_eq (List.map_congr_left fun p hp => ?_)
    simp only [Function.comp_apply, hrg p hp]
    rfl
end
theorem sorted_of_perm {F : FS} (hr : Rising F) {ss : List Nm} (h : ss.Perm (F.map Prod.fst)) : ss.mergeSort (fun x y => decide (x ≤ y)) = F.map Prod.fst := by
  rw [show (fun x y : Nm => decide (x ≤ y)) = leB from rfl, mergeSort_of_perm h]
  refine List.mergeSort_of_pairwise ?_
  rw [List.pairwise_map]
  exact hr.imp fun {p q} hpq => by simp only [leB, decide_eq_true_eq]; exact List.le_of_lt hpq
/-- The names that a disk tells. -/
def namesD (D : DSt) : List Nm := if D.down = true then [] else D.files.map Prod.fst
def NamesEnd (w : World) (L : List Nm) (e : Ending) (w' : World) : Prop :=
  ∃ A c, e = .returned (.slice A L.length c) ∧ OV w' w.heap.size 9 A c (L.map encStr) ∧ Below w.heap.size w w'
section
variable {S : Nat → Prop} {w w' : World} {g mf ms : Nat} {A : Option Addr} {c : Nat} {D : DSt}
set_option maxRecDepth 20000 in
set_option maxHeartbeats 4000000 in
theorem diskNamesC (h : DI S w g D) (hcnt : D.cnt ≤ 1000000) (hn : ∀ p ∈ D.files, p.1.length ≤ 9223372036854775807) : Calls Tryz.prog 30 #[.pointer (some ⟨g, 0, none⟩)] w (NamesEnd w (namesD D)) := by
  have AL := Lib.hid (diskAlive h)
  obtain ⟨mf, ms, A, c, h⟩ := h
  cases hd : D.down
  · rw [if_neg (by rw [hd]; simp)] at AL
    have hv : namesD D = D.files.map Prod.fst := by unfold namesD; rw [hd]; rfl
    rw [hv]
    obtain ⟨es, hmap, htold, hris, _⟩ := h.fi
    have hperm := htold.keys hmap.nodup hris
    have hlen := htold.len hmap.nodup hris
    have hfl : D.files.length ≤ 1000000 := Nat.le_trans (DSt.files_len D) hcnt
    obtain ⟨D0, hown, hsz, hpk⟩ := hmap.owns (fun p hp => by
      have : p.1 ∈ D.files.map Prod.fst := hperm.subset (List.mem_map.2 ⟨p, hp, rfl⟩)
      obtain ⟨q, hq, e⟩ := List.mem_map.1 this
      rw [← e]
      exact hn q hq) (by omega)
    have CK := Lib.hid (callsIn_wide.1 (Tryz.maps_Keys_73 (some mf) w))
    have CS := Lib.hid (callsIn_wide.1 (Tryz.slices_Sorted_keys_72_73 mf es.length D0 anyV w hown (by rw [hsz]; unfold maxLen; omega) (by rw [hsz]; omega)))
    have c0 := h.blk.cell 0 rfl
    have HS : Hid (∀ ss : List Nm, ss.Perm (strKeys D0) → ss.mergeSort (fun x y => decide (x ≤ y)) = D.files.map Prod.fst) := Lib.hid fun ss hss => sorted_of_perm hris ((hss.trans hpk).trans hperm)
    have hal : Below w.heap.size w (w.alloc (.cells #[.map (some mf)] 63)) := (Below.refl _ _).alloc (Nat.le_refl _) _
    have HAL := Lib.hid hal
    clear h hmap htold hris hperm hlen hown hsz hpk hd hv hal
    go_enter Tryz.func30, Tryz.ntmps30
    go_wp2_with fail
    refine AL.out.mono ?_
    rintro e w1 ⟨rfl, rfl⟩
    go_wp2_with fail
    refine CK.out.mono ?_
    rintro e w2 ⟨rfl, rfl⟩
    go_wp2_with fail
    refine CS.out.mono ?_
    rintro e w3 ⟨v, ss, rfl, hss, hrow, hnil, hb⟩
    rw [HS.out ss hss] at hrow
    have hl : ss.length = (D.files.map Prod.fst).length := by rw [← HS.out ss hss, List.length_mergeSort]
    rw [hl] at hrow
    have HF : Hid (NamesEnd w (D.files.map Prod.fst) (.returned v) w3) := Lib.hid (by
      have hrow2 : w3.ownsRow (w.alloc (.cells #[.map (some mf)] 63)).heap.size 9 1 v ((D.files.map Prod.fst).map encStr).length ((D.files.map Prod.fst).map encStr) := by rw [List.length_map]; exact hrow
      obtain ⟨A', c', hv', hov⟩ := OV.of_own hrow2
      subst hv'
      refine ⟨A', c', by rw [List.length_map], ?_, HAL.out.trans (hb.mono HAL.out.size)⟩
      exact hov.base_le HAL.out.size)
    clear AL CK CS hrow hnil hb hss hl c0 HS HAL
    go_wp2_with fail
    go_ret
    exact HF.out
  · rw [if_pos hd] at AL
    have hv : namesD D = [] := by unfold namesD; rw [if_pos hd]
    rw [hv]
    clear h hd hv
    go_enter Tryz.func30, Tryz.ntmps30
    go_wp2_with fail
    refine AL.out.mono ?_
    rintro e w1 ⟨rfl, rfl⟩
    go_wp2_with fail
    go_ret
    exact ⟨none, 0, rfl, OV.nil _ _ _, Below.refl _ _⟩
end
end Go.Proofs.YtobdmlejabjmiaaGreatDoor
/- The nil disk: every call of it. -/
namespace Go.Proofs.YtobdmlejabjmiaaGreatDoor
open Go.RowKit
section
variable {w : World}
end
end Go.Proofs.YtobdmlejabjmiaaGreatDoor
/- The law's answers (layer 4); the walk of DiskNil. -/
namespace Go.Proofs.YtobdmlejabjmiaaGreatDoor
open Go.RowKit

end Go.Proofs.YtobdmlejabjmiaaGreatDoor


/- CrcN: put together by merge.py of: CodecNum, CrcNum. -/
/- Plain arithmetic of numbers as bytes: no program. -/
namespace Go.Proofs.YtobdmlejabjmiaaGreatDoor

/-- The bytes of a number, the lowest first, none for 0. -/
def lowF : Nat → Nat → List UInt8
  | 0, _ => []
  | f + 1, n => if n = 0 then [] else UInt8.ofNat (n % 256) :: lowF f (n / 256)
def low (n : Nat) : List UInt8 := lowF 8 n
/-- A number's bytes as they are written. -/
def putNum (n : Nat) : List UInt8 := UInt8.ofNat (low n).length :: (low n).reverse

theorem lowF_zero (f : Nat) : lowF f 0 = [] := by cases f <;> simp [lowF]
theorem lowF_len (f n : Nat) : (lowF f n).length ≤ f := by
  induction f generalizing n with
  | zero => simp [lowF]
  | succ f ih => simp only [lowF]; split
                 · simp
                 · simp; exact ih _
theorem low_len (n : Nat) : (low n).length ≤ 8 := lowF_len 8 n
theorem lowF_bounds (f n : Nat) (h : n < 256 ^ f) (h0 : n ≠ 0) : 1 ≤ (lowF f n).length ∧ 256 ^ ((lowF f n).length - 1) ≤ n ∧ n < 256 ^ (lowF f n).length := by
  induction f generalizing n with
  | zero => simp at h; omega
  | succ f ih =>
    simp only [lowF, if_neg h0]
    by_cases h1 : n / 256 = 0
    · rw [h1, lowF_zero]; simp; omega
    · obtain ⟨a, b, c⟩ := ih (n / 256) (by rw [Nat.pow_succ] at h; omega) h1
      refine ⟨by simp, ?_, ?_⟩
      · simp only [List.length_cons, Nat.add_sub_cancel]
        generalize hk : (lowF f (n / 256)).length = k at *
        obtain ⟨k, rfl⟩ : ∃ j, k = j + 1 := ⟨k - 1, by omega⟩
        rw [Nat.add_sub_cancel] at b
        rw [Nat.pow_succ]; omega
      · simp only [List.length_cons]
        rw [Nat.pow_succ]; omega
theorem lowF_get (f n i : Nat) (h : i < (lowF f n).length) : (lowF f n)[i] = UInt8.ofNat (n / 256 ^ i % 256) := by
  induction f generalizing n i with
  | zero => simp [lowF] at h
  | succ f ih =>
    by_cases h0 : n = 0
    · subst h0; simp [lowF] at h
    · have e : lowF (f + 1) n = UInt8.ofNat (n % 256) :: lowF f (n / 256) := by simp [lowF, h0]
      simp only [e] at h ⊢
      match i with
      | 0 => simp
      | i + 1 =>
        simp only [List.getElem_cons_succ]
        rw [ih (n / 256) i (by simpa using h), Nat.pow_succ, Nat.mul_comm, Nat.div_div_eq_div_mul]
theorem low_get (n i : Nat) (h : i < (low n).length) : (low n)[i] = UInt8.ofNat (n / 256 ^ i % 256) := lowF_get 8 n i h

/-- How many bytes: by the bits. -/
theorem bitLen_low (n : Nat) (h : n < 18446744073709551616) : (Lib.bitLen n + 7) / 8 = (low n).length := by
  by_cases h0 : n = 0
  · subst h0; decide
  · obtain ⟨a, b, c⟩ := Lib.bitLenAux_bounds 64 n (by omega) h0
    obtain ⟨a', b', c'⟩ := lowF_bounds 8 n (by omega) h0
    unfold Lib.bitLen low
    generalize Lib.bitLenAux 64 n = x at *
    generalize (lowF 8 n).length = y at *
    have e1 : (256 : Nat) ^ y = 2 ^ (8 * y) := by rw [show (256 : Nat) = 2 ^ 8 from rfl, ← Nat.pow_mul]
    have e2 : (256 : Nat) ^ (y - 1) = 2 ^ (8 * (y - 1)) := by rw [show (256 : Nat) = 2 ^ 8 from rfl, ← Nat.pow_mul]
    rw [e1] at c'; rw [e2] at b'
    have l1 : x - 1 < 8 * y := (Nat.pow_lt_pow_iff_right (a := 2) (by omega)).1 (Nat.lt_of_le_of_lt b c')
    have l2 : 8 * (y - 1) < x := (Nat.pow_lt_pow_iff_right (a := 2) (by omega)).1 (Nat.lt_of_le_of_lt b' c)
    omega

theorem u8_of {n : Nat} (h : n < 256) : ((UInt8.ofNat n).toNat : Int) = (n : Int) := by
  rw [UInt8.toNat_ofNat']; omega
theorem shr_byte (n : Int) (i : Nat) (h : 0 ≤ n) : n / 2 ^ (8 * i) % 256 = ((UInt8.ofNat (n.toNat / 256 ^ i % 256)).toNat : Int) := by
  obtain ⟨m, rfl⟩ := Int.eq_ofNat_of_zero_le h
  rw [u8_of (Nat.mod_lt _ (by omega)), Int.toNat_natCast, show (256 : Nat) ^ i = 2 ^ (8 * i) by rw [show (256 : Nat) = 2 ^ 8 from rfl, ← Nat.pow_mul]]
  simp
theorem drop_rev {l : List UInt8} {i : Nat} (h : i < l.length) : (l.drop i).reverse = (l.drop (i + 1)).reverse ++ [l[i]] := by
  rw [List.drop_eq_getElem_cons h]; simp
end Go.Proofs.YtobdmlejabjmiaaGreatDoor
/- Plain arithmetic of CRC-32: no program. -/
namespace Go.Proofs.YtobdmlejabjmiaaGreatDoor

def poly : Nat := 3988292384
def crcBit (r : Nat) : Nat := (r / 2) ^^^ (if r % 2 = 1 then poly else 0)
def crcBits : Nat → Nat → Nat
  | 0, r => r
  | k + 1, r => crcBits k (crcBit r)
def crcByte (r x : Nat) : Nat := crcBits 8 (r ^^^ x)
def crcL (r : Nat) (l : List UInt8) : Nat := l.foldl (fun r x => crcByte r x.toNat) r

/-- The reference's step: the bit that comes, and the state's last. -/
def refBit (r y : Nat) : Nat := (r / 2) ^^^ (if y % 2 ≠ r % 2 then poly else 0)
def refBits : Nat → Nat → Nat → Nat
  | 0, r, _ => r
  | k + 1, r, y => refBits k (refBit r y) (y / 2)

theorem xor_lt {a b : Nat} (ha : a < 4294967296) (hb : b < 4294967296) : a ^^^ b < 4294967296 := Nat.xor_lt_two_pow (n := 32) ha hb
theorem crcBit_lt {r : Nat} (h : r < 4294967296) : crcBit r < 4294967296 := by
  unfold crcBit; refine xor_lt (by omega) ?_; split <;> decide
theorem crcBits_lt (k : Nat) : ∀ {r : Nat}, r < 4294967296 → crcBits k r < 4294967296 := by
  induction k with
  | zero => intro r h; exact h
  | succ k ih => intro r h; exact ih (crcBit_lt h)
theorem crcByte_lt {r x : Nat} (h : r < 4294967296) (hx : x < 4294967296) : crcByte r x < 4294967296 := crcBits_lt 8 (xor_lt h hx)
theorem crcL_lt {r : Nat} (h : r < 4294967296) (l : List UInt8) : crcL r l < 4294967296 := by
  induction l generalizing r with
  | nil => exact h
  | cons x l ih => exact ih (crcByte_lt h (by have := x.toNat_lt; omega))
theorem crcL_snoc (r : Nat) (l : List UInt8) (x : UInt8) : crcL r (l ++ [x]) = crcByte (crcL r l) x.toNat := by simp [crcL]
theorem crcL_append (r : Nat) (l m : List UInt8) : crcL r (l ++ m) = crcL (crcL r l) m := by simp [crcL]
theorem crcBits_succ (k r : Nat) : crcBits (k + 1) r = crcBit (crcBits k r) := by
  induction k generalizing r with
  | zero => rfl
  | succ k ih => rw [crcBits, ih]; rfl

theorem ones_xor (s : Nat) (h : s < 4294967296) : 4294967295 ^^^ s = 4294967295 - s := by
  have h1 : (BitVec.allOnes 32 ^^^ BitVec.ofNat 32 s).toNat = (~~~ (BitVec.ofNat 32 s)).toNat := by rw [BitVec.allOnes_xor]
  rw [BitVec.toNat_xor, BitVec.toNat_not, BitVec.toNat_allOnes, BitVec.toNat_ofNat, Nat.mod_eq_of_lt (by omega)] at h1
  simpa using h1

/-- The sum of bytes. -/
def crc (l : List UInt8) : Nat := 4294967295 - crcL 4294967295 l
end Go.Proofs.YtobdmlejabjmiaaGreatDoor

