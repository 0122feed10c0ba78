/- Contracts of package disk's Sync, Read, Unsure. -/
import Derived.Test.YthdmnajcphaekaaDoorDiskM
import Derived.Test.YthdmnajcphaekaaDoorDiskS
namespace Go.Proofs.YthdmnajcphaekaaDoor
open Go.RowKit

section
variable {S : Nat → Prop} {w w' : World} {g mf ms : Nat} {A : Option Addr} {c : Nat} {D : DSt}
set_option maxRecDepth 20000 in
set_option maxHeartbeats 4000000 in
theorem diskSyncC (h : DI S w g D) (hcnt : D.cnt ≤ 1000000) : Calls Tryd.prog 20 #[.pointer (some ⟨g, 0, none⟩)] w (PDone S w g (syncD D).2 (.int .i64 (syncD D).1)) := by
  have AL := Lib.hid (diskAlive h)
  obtain ⟨mf, ms, A, c, h⟩ := h
  cases hd : D.down
  · rw [if_neg (by rw [hd]; simp)] at AL
    have HB := Lib.hid (diskBurn h)
    have HH := Lib.hid h
    have hmg := h.sg
    cases hbd : (burnD D).down
    · have hsy : syncD D = (0, { burnD D with sure := D.files, unsure := [] }) := by unfold syncD; rw [hd, hbd]; rfl
      rw [hsy]
      rw [hbd] at HB
      have HBD := Lib.hid hbd
      clear h hsy hbd hd
      go_enter Tryd.func20, Tryd.ntmps20
      go_wp2_with fail
      refine AL.out.mono ?_
      rintro e w1 ⟨rfl, rfl⟩
      go_wp2_with fail
      refine HB.out.mono ?_
      rintro e w2 ⟨rfl, h2, hm2⟩
      have CL := Lib.hid (diskClone w2 h2.fi (fun k l hk => by have := h2.ok.files k l hk; omega))
      have c0 := h2.blk.cell 0 rfl
      have H2 := Lib.hid h2
      clear h2 AL HB
      go_wp2_with fail
      refine CL.out.mono ?_
      rintro e w3 ⟨rfl, hf3, hb3⟩
      have H3 := Lib.hid (H2.out.below hb3)
      have c1 := H3.out.blk.cell 1 rfl
      have c2' := H3.out.blk.cell 2 rfl
      have f1 := H3.out.blk.free 1
      have f2 := H3.out.blk.free 2
      have HFIN : Hid (PDone S w g { burnD D with sure := D.files, unsure := [] } (.int .i64 0) (.returned (.int .i64 0)) ((w3.setCell ⟨g, 1, none⟩ (.map (some w2.heap.size))).setCell ⟨g, 2, none⟩ (.slice none 0 0))) := Lib.hid (by
        have hkb : ∀ b, b ≠ g → ((w3.setCell ⟨g, 1, none⟩ (.map (some w2.heap.size))).setCell ⟨g, 2, none⟩ (.slice none 0 0)).heap[b]? = w3.heap[b]? := fun b hb => by rw [Below.heap_setCell _ _ _ b hb, Below.heap_setCell _ _ _ b hb]
        have hsz3 : ((w3.setCell ⟨g, 1, none⟩ (.map (some w2.heap.size))).setCell ⟨g, 2, none⟩ (.slice none 0 0)).heap.size = w3.heap.size := by simp
        have hbk := (H3.out.blk.setCell 1 (.map (some w2.heap.size))).setCell 2 (.slice none 0 0)
        have hs2 := hm2.size
        have hs3 := hb3.size
        refine ⟨rfl, ⟨mf, w2.heap.size, none, 0, ?_, ?_, ?_, ?_, UI.nil _ _, .inl hmg, ?_, fun b hb => ?_⟩, ((Mods.below (hm2.mono fun b _ hb => by subst hb; exact hmg) hb3).setCell _ (.inl hmg) _).setCell _ (.inl hmg) _⟩
        · exact hbk
        · show FI _ _ _ (List.foldl doF D.files [])
          have := (H3.out.fi.mono (T := Sx S w ((w3.setCell ⟨g, 1, none⟩ (.map (some w2.heap.size))).setCell ⟨g, 2, none⟩ (.slice none 0 0))) fun b _ hb => .inl hb).of_var H3.out.blk (by decide) hkb
          rw [burnD_files] at this
          exact this
        · have := (hf3.mono (T := Sx S w ((w3.setCell ⟨g, 1, none⟩ (.map (some w2.heap.size))).setCell ⟨g, 2, none⟩ (.slice none 0 0))) fun b _ hb => .inr ⟨by have := hb.1; omega, by rw [hsz3]; exact hb.2⟩).of_var H3.out.blk (by decide) hkb
          rw [burnD_files] at this
          exact this
        · have := H2.out.fi.at_
          obtain ⟨es, hm⟩ := this
          have := hm.lt
          omega
        · exact ⟨(burnD_ok HH.out.ok).1, (burnD_ok HH.out.ok).2.1, HH.out.ok.files, by simp⟩
        · rcases hb with hb | hb
          · have := HH.out.bnd b hb; rw [hsz3]; omega
          · exact hb.2)
      clear hf3 hb3 H2 H3 CL hm2 c0 HBD HH
      go_wp2_with fail
      go_ret
      exact HFIN.out
    · have hsy : syncD D = (11, burnD D) := by unfold syncD; rw [hd, hbd]; rfl
      rw [hsy]
      rw [hbd] at HB
      clear h hsy hbd hd
      go_enter Tryd.func20, Tryd.ntmps20
      go_wp2_with fail
      refine AL.out.mono ?_
      rintro e w1 ⟨rfl, rfl⟩
      go_wp2_with fail
      refine HB.out.mono ?_
      rintro e w2 ⟨rfl, h2, hm2⟩
      have HF : Hid (PDone S w g (burnD D) (.int .i64 11) (.returned (.int .i64 11)) w2) := Lib.hid ⟨rfl, h2.sx hm2.size HH.out.bnd, hm2.mono fun b _ hb => by subst hb; exact hmg⟩
      clear h2 hm2 HB AL HH
      go_wp2_with fail
      go_ret
      exact HF.out
  · rw [if_pos hd] at AL
    have hsy : syncD D = (11, D) := by unfold syncD; rw [hd]; rfl
    rw [hsy]
    have HF := Lib.hid (h.same (Below.refl _ _) (.int .i64 11))
    clear h hsy hd
    go_enter Tryd.func20, Tryd.ntmps20
    go_wp2_with fail
    refine AL.out.mono ?_
    rintro e w1 ⟨rfl, rfl⟩
    go_wp2_with fail
    go_ret
    exact HF.out

set_option maxRecDepth 20000 in
set_option maxHeartbeats 4000000 in
theorem diskReadC (name : Nm) (h : DI S w g D) (hn : name.length ≤ 9223372036854775807) : Calls Tryd.prog 19 #[.pointer (some ⟨g, 0, none⟩), .string ⟨name.toArray⟩] w (ReadEnd w D name) := by
  have AL := Lib.hid (diskAlive h)
  obtain ⟨mf, ms, A, c, h⟩ := h
  cases hd : D.down
  · rw [if_neg (by rw [hd]; simp)] at AL
    have NM := Lib.hid (diskNamed ⟨name.toArray⟩ w (by simpa [ByteArray.size] using hn))
    cases hno : nameOk name
    · rw [show nameOk (⟨name.toArray⟩ : ByteArray).data.toList = false from hno] at NM
      have HE : Hid (readE D name = 1) := Lib.hid (by unfold readE; rw [hd, hno]; rfl)
      clear h hd hno
      go_enter Tryd.func19, Tryd.ntmps19
      go_wp2_with fail
      refine AL.out.mono ?_
      rintro e w1 ⟨rfl, rfl⟩
      go_wp2_with fail
      refine NM.out.mono ?_
      rintro e w2 ⟨rfl, hb⟩
      clear AL NM
      go_wp2_with fail
      go_ret2
      exact readEnd_err HE.out (by decide) hb
    · rw [show nameOk (⟨name.toArray⟩ : ByteArray).data.toList = true from hno] at NM
      obtain ⟨es, hmap, ht, _, _⟩ := h.fi
      obtain ⟨Ao, co, hrb, hl⟩ := ht.look2 (m := mf) name
      have HMAP := Lib.hid hmap
      have HL := Lib.hid hl
      have HRB := Lib.hid hrb
      have HBL := Lib.hid h.blk
      have HRE : Hid (∀ b, (fget D.files name).isSome = b → readE D name = if b = true then 0 else 8) := Lib.hid fun b hb => by unfold readE; rw [hd, hno, hb]; rfl
      have hol : ((fget D.files name).getD []).length ≤ 4194304 := by
        cases hg : fget D.files name with
        | none => simp
        | some l => exact h.ok.files _ _ hg
      have HOL : Hid (∃ l, (fget D.files name).getD [] = l) := Lib.hid ⟨_, rfl⟩
      clear h hd hno hmap ht hl hrb
      obtain ⟨old, hold⟩ := HOL.out
      rw [hold] at HL HRB hol
      have HOLD := Lib.hid hold
      clear hold HOL
      cases hse : (fget D.files name).isSome
      · have HE : Hid (readE D name = 8) := Lib.hid (by rw [HRE.out false hse]; rfl)
        rw [hse] at HL
        clear hse HRE
        go_enter Tryd.func19, Tryd.ntmps19
        go_wp2_with fail
        refine AL.out.mono ?_
        rintro e w1 ⟨rfl, rfl⟩
        go_wp2_with fail
        refine NM.out.mono ?_
        rintro e w2 ⟨rfl, hb⟩
        have c0 := (HBL.out.kept hb).cell 0 rfl
        have hlk := HL.out w2 (HMAP.out.below hb)
        clear AL NM
        go_wp2_with fail
        go_ret2
        exact readEnd_err HE.out (by decide) hb
      · have HE : Hid (readE D name = 0) := Lib.hid (by rw [HRE.out true hse]; rfl)
        have HB : Hid (readB D name = old) := Lib.hid (by unfold readB; rw [HE.out, if_pos rfl, HOLD.out])
        rw [hse] at HL
        clear hse HRE
        go_enter Tryd.func19, Tryd.ntmps19
        go_wp2_with fail
        refine AL.out.mono ?_
        rintro e w1 ⟨rfl, rfl⟩
        go_wp2_with fail
        refine NM.out.mono ?_
        rintro e w2 ⟨rfl, hb⟩
        have c0 := (HBL.out.kept hb).cell 0 rfl
        have hlk := HL.out w2 (HMAP.out.below hb)
        have CL := Lib.hid (cloneB' Ao co old w2 (HRB.out.below hb) (by omega))
        clear AL NM
        go_wp2_with fail
        refine CL.out.mono ?_
        rintro e w3 ⟨A', c', rfl, ho, hb3⟩
        have HF : Hid (ReadEnd w D name (.returned (.tuple #[.slice A' old.length c', .int .i64 0])) w3) := Lib.hid ⟨A', c', by rw [HB.out, HE.out], by rw [HB.out]; exact ho.base_le hb.size, hb.trans (hb3.mono hb.size)⟩
        clear CL ho hb3 hb HMAP HL HRB HBL
        go_wp2_with fail
        go_ret2
        exact HF.out
  · rw [if_pos hd] at AL
    have HE : Hid (readE D name = 11) := Lib.hid (by unfold readE; rw [hd]; rfl)
    clear h hd
    go_enter Tryd.func19, Tryd.ntmps19
    go_wp2_with fail
    refine AL.out.mono ?_
    rintro e w1 ⟨rfl, rfl⟩
    go_wp2_with fail
    go_ret2
    exact readEnd_err HE.out (by decide) (Below.refl _ _)
end
end Go.Proofs.YthdmnajcphaekaaDoor
