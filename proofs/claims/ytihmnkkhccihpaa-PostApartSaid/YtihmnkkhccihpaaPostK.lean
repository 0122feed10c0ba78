/- The law's look on any two posts: some answer, and both stay posts. -/
import Derived.Test.YtihmnkkhccihpaaPostT
namespace Go.Proofs.Ytihmnkkhccihpaa
open Go.RowKit

section
variable {n N : Nat} {w w' : World} {g g2 : Nat} {V V2 : List Val} {C C2 : Int × Int → Bool} {room room2 : Int}
/-- What a call on any two posts ends in. -/
def AnyE (n g g2 : Nat) (room room2 : Int) (N : Nat) (w : World) (e : Ending) (w' : World) : Prop :=
  ∃ (r : Bool) (V : List Val) (C : Int × Int → Bool) (V2 : List Val) (C2 : Int × Int → Bool), e = .returned (.bool r) ∧ PI n w' g V C room ∧ RI n w' g2 V2 C2 room2 N ∧ Below n w w'
theorem AnyE.of {r : Bool} (p : PI n w' g V C room) (q : RI n w' g2 V2 C2 room2 N) (b : Below n w w') : AnyE n g g2 room room2 N w (.returned (.bool r)) w' := ⟨r, V, C, V2, C2, rfl, p, q, b⟩
theorem atV_cases (V : List Val) (i : Int) : ∃ (pf pt : Int) (pd : List UInt8) (er : Int), atV V i = ((pf, pt, pd), er) ∧ (er = 0 ∨ (er = 8 ∧ pf = 0 ∧ pt = 0 ∧ pd = [])) := by
  unfold atV
  split
  · exact ⟨_, _, _, _, rfl, .inl rfl⟩
  · exact ⟨_, _, _, _, rfl, .inr ⟨rfl, rfl, rfl, rfl⟩⟩

set_option maxRecDepth 20000 in
set_option maxHeartbeats 8000000 in
theorem lookG_out (i : Int) (h : PI n w g V C room) (k : RI n w g2 V2 C2 room2 N) (hn : n ≤ w.heap.size) (hi : I64 i) (hr : i < 0 ∨ (V2.length : Int) ≤ i) :
    Calls Try.prog 29 #[.pointer (some ⟨g, 0, none⟩), .pointer (some ⟨g2, 0, none⟩), .int .i64 i, .bool false] w (AnyE n g g2 room room2 N w) := by
  obtain ⟨pf, pt, pd, er, hat, her⟩ := atV_cases V i
  have L := postLookI i h hi
  rw [hat] at L
  have HL := Lib.hid L
  have HP := Lib.hid (fun w' (hb : Below w.heap.size w w') => h.below hb)
  have hv := k.len
  have k0 := Lib.hid k
  obtain ⟨R, A, cap, Cs, B, capB, h1, _, hV, _⟩ := k
  have hRV : R.length = V2.length := by rw [← hV, List.length_map]
  have hr' : i < 0 ∨ (R.length : Int) ≤ i := by omega
  have H1 := Lib.hid h1
  have hrl := h1.fits.1
  clear h hat L hV h1 hRV hr
  by_cases h0 : i < 0
  · rcases her with rfl | ⟨rfl, rfl, rfl, rfl⟩
    · go_enter Try.func29, Try.ntmps29
      go_wp2_with fail
      refine HL.out.mono ?_
      rintro e w2 ⟨D, c, d', rfl, hd, hd2, ho', hb⟩
      have hp := HP.out w2 hb
      have ho := ho'.base_le (Nat.zero_le _)
      have hB2 := hb.mono hn
      have htm := TM.below (bad := badP) hb
      clear hb ho'
      have HF := fun r => Lib.hid (AnyE.of (r := r) hp (k0.out.tm htm) hB2)
      clear hp hB2 htm ho
      go_wp2_with fail
      go_ret
      exact (HF _).out
    · go_enter Try.func29, Try.ntmps29
      go_wp2_with fail
      refine HL.out.mono ?_
      rintro e w2 ⟨D, c, d', rfl, hd, hd2, ho', hb⟩
      have hp := HP.out w2 hb
      have ho := ho'.base_le (Nat.zero_le _)
      have hB2 := hb.mono hn
      have htm := TM.below (bad := badP) hb
      clear hb ho'
      have hd' := hd.out
      subst hd'
      have HF := fun r => Lib.hid (AnyE.of (r := r) hp (k0.out.tm htm) hB2)
      clear hp hB2 htm ho
      go_wp2_with fail
      go_ret
      exact (HF _).out
  · have h0' : (R.length : Int) ≤ i := by omega
    rcases her with rfl | ⟨rfl, rfl, rfl, rfl⟩
    · go_enter Try.func29, Try.ntmps29
      go_wp2_with fail
      refine HL.out.mono ?_
      rintro e w2 ⟨D, c, d', rfl, hd, hd2, ho', hb⟩
      have hp := HP.out w2 hb
      have ho := ho'.base_le (Nat.zero_le _)
      have hB2 := hb.mono hn
      have htm := TM.below (bad := badP) hb
      clear hb ho'
      have c1 := (H1.out.tm htm).blk.cell 1 rfl
      have HF := fun r => Lib.hid (AnyE.of (r := r) hp (k0.out.tm htm) hB2)
      clear hp hB2 htm ho
      go_wp2_with fail
      go_ret
      exact (HF _).out
    · go_enter Try.func29, Try.ntmps29
      go_wp2_with fail
      refine HL.out.mono ?_
      rintro e w2 ⟨D, c, d', rfl, hd, hd2, ho', hb⟩
      have hp := HP.out w2 hb
      have ho := ho'.base_le (Nat.zero_le _)
      have hB2 := hb.mono hn
      have htm := TM.below (bad := badP) hb
      clear hb ho'
      have hd' := hd.out
      subst hd'
      have c1 := (H1.out.tm htm).blk.cell 1 rfl
      have HF := fun r => Lib.hid (AnyE.of (r := r) hp (k0.out.tm htm) hB2)
      clear hp hB2 htm ho
      go_wp2_with fail
      go_ret
      exact (HF _).out

set_option maxRecDepth 20000 in
set_option maxHeartbeats 8000000 in
theorem takeG_out (i : Int) (h : PI n w g V C room) (k : RI n w g2 V2 C2 room2 N) (hn : n ≤ w.heap.size) (hi : I64 i) (hr : i < 0 ∨ (V2.length : Int) ≤ i) :
    Calls Try.prog 29 #[.pointer (some ⟨g, 0, none⟩), .pointer (some ⟨g2, 0, none⟩), .int .i64 i, .bool true] w (AnyE n g g2 room room2 N w) := by
  obtain ⟨pf, pt, pd, er, hat, her⟩ := atV_cases V i
  have L := postTakeI i h hn hi
  unfold TakeI at L
  rw [hat] at L
  have HL := Lib.hid L
  have hv := k.len
  have k0 := Lib.hid k
  obtain ⟨R, A, cap, Cs, B, capB, h1, _, hV, _⟩ := k
  have hRV : R.length = V2.length := by rw [← hV, List.length_map]
  have hr' : i < 0 ∨ (R.length : Int) ≤ i := by omega
  have H1 := Lib.hid h1
  have hrl := h1.fits.1
  clear h hat L hV h1 hRV hr
  by_cases h0 : i < 0
  · rcases her with rfl | ⟨rfl, rfl, rfl, rfl⟩
    · go_enter Try.func29, Try.ntmps29
      go_wp2_with fail
      refine HL.out.mono ?_
      rintro e w2 ⟨D, c, d', rfl, hd, hd2, ho, hp, hk⟩
      have hB2 := hk.below
      have htm := hk.tm
      clear hk
      have HF := fun r => Lib.hid (AnyE.of (r := r) hp (k0.out.tm htm) hB2)
      clear hp hB2 htm ho
      go_wp2_with fail
      go_ret
      exact (HF _).out
    · go_enter Try.func29, Try.ntmps29
      go_wp2_with fail
      refine HL.out.mono ?_
      rintro e w2 ⟨D, c, d', rfl, hd, hd2, ho, hp, hk⟩
      have hB2 := hk.below
      have htm := hk.tm
      clear hk
      have hd' := hd.out
      subst hd'
      have HF := fun r => Lib.hid (AnyE.of (r := r) hp (k0.out.tm htm) hB2)
      clear hp hB2 htm ho
      go_wp2_with fail
      go_ret
      exact (HF _).out
  · have h0' : (R.length : Int) ≤ i := by omega
    rcases her with rfl | ⟨rfl, rfl, rfl, rfl⟩
    · go_enter Try.func29, Try.ntmps29
      go_wp2_with fail
      refine HL.out.mono ?_
      rintro e w2 ⟨D, c, d', rfl, hd, hd2, ho, hp, hk⟩
      have hB2 := hk.below
      have htm := hk.tm
      clear hk
      have c1 := (H1.out.tm htm).blk.cell 1 rfl
      have HF := fun r => Lib.hid (AnyE.of (r := r) hp (k0.out.tm htm) hB2)
      clear hp hB2 htm ho
      go_wp2_with fail
      go_ret
      exact (HF _).out
    · go_enter Try.func29, Try.ntmps29
      go_wp2_with fail
      refine HL.out.mono ?_
      rintro e w2 ⟨D, c, d', rfl, hd, hd2, ho, hp, hk⟩
      have hB2 := hk.below
      have htm := hk.tm
      clear hk
      have hd' := hd.out
      subst hd'
      have c1 := (H1.out.tm htm).blk.cell 1 rfl
      have HF := fun r => Lib.hid (AnyE.of (r := r) hp (k0.out.tm htm) hB2)
      clear hp hB2 htm ho
      go_wp2_with fail
      go_ret
      exact (HF _).out

set_option maxRecDepth 20000 in
set_option maxHeartbeats 8000000 in
theorem lookG_in (i : Int) (h : PI n w g V C room) (k : RI n w g2 V2 C2 room2 N) (hn : n ≤ w.heap.size) (hi : I64 i) (hr : 0 ≤ i ∧ i < (V2.length : Int)) :
    Calls Try.prog 29 #[.pointer (some ⟨g, 0, none⟩), .pointer (some ⟨g2, 0, none⟩), .int .i64 i, .bool false] w (AnyE n g g2 room room2 N w) := by
  obtain ⟨pf, pt, pd, er, hat, her⟩ := atV_cases V i
  have L := postLookI i h hi
  rw [hat] at L
  have HL := Lib.hid L
  have HP := Lib.hid (fun w' (hb : Below w.heap.size w w') => h.below hb)
  have k0 := Lib.hid k
  have hv := k.len
  obtain ⟨j, rfl⟩ : ∃ j : Nat, i = (j : Int) := ⟨i.toNat, by omega⟩
  obtain ⟨R, A, cap, Cs, B, capB, h1, hfr, hV, hCn, hC⟩ := k
  have hRV : R.length = V2.length := by rw [← hV, List.length_map]
  have hjR : j < R.length := by omega
  have H1 := Lib.hid h1
  have HFR := Lib.hid hfr
  have hrl := h1.fits.1
  obtain ⟨bb, rfl⟩ := h1.row.head (by simpa using (show 0 < R.length by omega))
  have HDAT : Hid (∀ w', RefR w' g2 R (some ⟨bb, 0, none⟩) cap Cs B capB room2 → w'.cell? ⟨bb, j * 3, none⟩ = some (.int .i64 R[j].f) ∧ w'.cell? ⟨bb, j * 3 + 1, none⟩ = some (.int .i64 R[j].t) ∧ w'.cell? ⟨bb, j * 3 + 2, none⟩ = some (.slice R[j].A R[j].d.length R[j].c) ∧ OB w' 0 R[j].A R[j].c R[j].d) := Lib.hid (fun w' hw' => by
    have hg := fun (q : Nat) (v : Value) (hq : R[j].cells[q]? = some v) => hw'.row.rs.get (i := j) (cs := R[j].cells) (by simp [hjR]) q (v := v) hq
    exact ⟨by simpa using hg 0 (.int .i64 R[j].f) (by simp [Ltr.cells]), by simpa using hg 1 (.int .i64 R[j].t) (by simp [Ltr.cells]), by simpa using hg 2 (.slice R[j].A R[j].d.length R[j].c) (by simp [Ltr.cells]), (hw'.data _ (List.getElem_mem hjR)).1⟩)
  have h0 : ¬ (j : Int) < 0 := by omega
  generalize R[j].f = f at *
  generalize R[j].t = t at *
  generalize R[j].A = DA at *
  generalize R[j].c = dc at *
  generalize R[j].d = da at *
  have hsp : er = 8 ∨ (er = 0 ∧ (pf == f) = false) ∨ (er = 0 ∧ f = pf ∧ (pt == t) = false) ∨ (er = 0 ∧ f = pf ∧ t = pt) := by
    rcases her with rfl | ⟨rfl, _⟩
    · by_cases q1 : f = pf
      · by_cases q2 : t = pt
        · exact .inr (.inr (.inr ⟨rfl, q1, q2⟩))
        · exact .inr (.inr (.inl ⟨rfl, q1, by simpa using fun e => q2 e.symm⟩))
      · exact .inr (.inl ⟨rfl, by simpa using fun e => q1 e.symm⟩)
    · exact .inl rfl
  clear her
  clear h hat L hV h1 hRV hv hfr hCn hC hr HFR
  rcases hsp with rfl | ⟨rfl, q1⟩ | ⟨rfl, rfl, q2⟩ | ⟨rfl, rfl, rfl⟩
  · go_enter Try.func29, Try.ntmps29
    go_wp2_with fail
    refine HL.out.mono ?_
    rintro e w2 ⟨D, c, d', rfl, hd, hd2, ho', hb⟩
    have hp := HP.out w2 hb
    have ho := ho'.base_le (Nat.zero_le _)
    have hB2 := hb.mono hn
    have htm := TM.below (bad := badP) hb
    clear hb ho'
    have h2 := H1.out.tm htm
    have c1 := h2.blk.cell 1 rfl
    obtain ⟨r0, r1, r2, hE⟩ := HDAT.out w2 h2
    have hb3 : Below w2.heap.size w2 (w2.alloc (.cells #[.int .i64 f, .int .i64 t, .slice DA da.length dc] 68)) := (Below.refl _ _).alloc (Nat.le_refl _) _
    have HF := fun r => Lib.hid (AnyE.of (r := r) (hp.below hb3) ((k0.out.tm htm).below hb3) (hB2.trans (hb3.mono (Nat.le_trans hn htm.size))))
    clear hp hB2 htm ho hb3 hE h2
    go_wp2_with fail
    go_ret
    exact (HF _).out
  · go_enter Try.func29, Try.ntmps29
    go_wp2_with fail
    refine HL.out.mono ?_
    rintro e w2 ⟨D, c, d', rfl, hd, hd2, ho', hb⟩
    have hp := HP.out w2 hb
    have ho := ho'.base_le (Nat.zero_le _)
    have hB2 := hb.mono hn
    have htm := TM.below (bad := badP) hb
    clear hb ho'
    have h2 := H1.out.tm htm
    have c1 := h2.blk.cell 1 rfl
    obtain ⟨r0, r1, r2, hE⟩ := HDAT.out w2 h2
    have hb3 : Below w2.heap.size w2 (w2.alloc (.cells #[.int .i64 f, .int .i64 t, .slice DA da.length dc] 68)) := (Below.refl _ _).alloc (Nat.le_refl _) _
    have HF := fun r => Lib.hid (AnyE.of (r := r) (hp.below hb3) ((k0.out.tm htm).below hb3) (hB2.trans (hb3.mono (Nat.le_trans hn htm.size))))
    clear hp hB2 htm ho hb3 hE h2
    go_wp2_with fail
    go_ret
    exact (HF _).out
  · go_enter Try.func29, Try.ntmps29
    go_wp2_with fail
    refine HL.out.mono ?_
    rintro e w2 ⟨D, c, d', rfl, hd, hd2, ho', hb⟩
    have hp := HP.out w2 hb
    have ho := ho'.base_le (Nat.zero_le _)
    have hB2 := hb.mono hn
    have htm := TM.below (bad := badP) hb
    clear hb ho'
    have h2 := H1.out.tm htm
    have c1 := h2.blk.cell 1 rfl
    obtain ⟨r0, r1, r2, hE⟩ := HDAT.out w2 h2
    have hb3 : Below w2.heap.size w2 (w2.alloc (.cells #[.int .i64 f, .int .i64 t, .slice DA da.length dc] 68)) := (Below.refl _ _).alloc (Nat.le_refl _) _
    have HF := fun r => Lib.hid (AnyE.of (r := r) (hp.below hb3) ((k0.out.tm htm).below hb3) (hB2.trans (hb3.mono (Nat.le_trans hn htm.size))))
    clear hp hB2 htm ho hb3 hE h2
    go_wp2_with fail
    go_ret
    exact (HF _).out
  · go_enter Try.func29, Try.ntmps29
    go_wp2_with fail
    refine HL.out.mono ?_
    rintro e w2 ⟨D, c, d', rfl, hd, hd2, ho', hb⟩
    have hp := HP.out w2 hb
    have ho := ho'.base_le (Nat.zero_le _)
    have hB2 := hb.mono hn
    have htm := TM.below (bad := badP) hb
    clear hb ho'
    have h2 := H1.out.tm htm
    have c1 := h2.blk.cell 1 rfl
    obtain ⟨r0, r1, r2, hE⟩ := HDAT.out w2 h2
    have hb3 : Below w2.heap.size w2 (w2.alloc (.cells #[.int .i64 f, .int .i64 t, .slice DA da.length dc] 68)) := (Below.refl _ _).alloc (Nat.le_refl _) _
    have hc1 : (convert 33 9 (.slice D d'.length c)).run Try.prog (w2.alloc (.cells #[.int .i64 f, .int .i64 t, .slice DA da.length dc] 68)) = .ok (.string ⟨d'.toArray⟩) (w2.alloc (.cells #[.int .i64 f, .int .i64 t, .slice DA da.length dc] 68)) := convB c (ho.rb.below hb3)
    have hc2 : (convert 33 9 (.slice DA da.length dc)).run Try.prog (w2.alloc (.cells #[.int .i64 f, .int .i64 t, .slice DA da.length dc] 68)) = .ok (.string ⟨da.toArray⟩) (w2.alloc (.cells #[.int .i64 f, .int .i64 t, .slice DA da.length dc] 68)) := convB dc (hE.rb.below hb3)
    have HF := fun r => Lib.hid (AnyE.of (r := r) (hp.below hb3) ((k0.out.tm htm).below hb3) (hB2.trans (hb3.mono (Nat.le_trans hn htm.size))))
    clear hp hB2 htm ho hb3 hE h2
    go_wp2_with fail
    go_ret
    exact (HF _).out

set_option maxRecDepth 20000 in
set_option maxHeartbeats 8000000 in
theorem takeG_in (i : Int) (h : PI n w g V C room) (k : RI n w g2 V2 C2 room2 N) (hn : n ≤ w.heap.size) (hi : I64 i) (hr : 0 ≤ i ∧ i < (V2.length : Int)) :
    Calls Try.prog 29 #[.pointer (some ⟨g, 0, none⟩), .pointer (some ⟨g2, 0, none⟩), .int .i64 i, .bool true] w (AnyE n g g2 room room2 N w) := by
  obtain ⟨pf, pt, pd, er, hat, her⟩ := atV_cases V i
  have L := postTakeI i h hn hi
  unfold TakeI at L
  rw [hat] at L
  have HL := Lib.hid L
  have hv := k.len
  obtain ⟨j, rfl⟩ : ∃ j : Nat, i = (j : Int) := ⟨i.toNat, by omega⟩
  obtain ⟨R, A, cap, Cs, B, capB, h1, hfr, hV, hCn, hC⟩ := k
  have hRV : R.length = V2.length := by rw [← hV, List.length_map]
  have hjR : j < R.length := by omega
  have H1 := Lib.hid h1
  have HFR := Lib.hid hfr
  have hrl := h1.fits.1
  obtain ⟨bb, rfl⟩ := h1.row.head (by simpa using (show 0 < R.length by omega))
  have HDAT : Hid (∀ w', RefR w' g2 R (some ⟨bb, 0, none⟩) cap Cs B capB room2 → w'.cell? ⟨bb, j * 3, none⟩ = some (.int .i64 R[j].f) ∧ w'.cell? ⟨bb, j * 3 + 1, none⟩ = some (.int .i64 R[j].t) ∧ w'.cell? ⟨bb, j * 3 + 2, none⟩ = some (.slice R[j].A R[j].d.length R[j].c) ∧ OB w' 0 R[j].A R[j].c R[j].d) := Lib.hid (fun w' hw' => by
    have hg := fun (q : Nat) (v : Value) (hq : R[j].cells[q]? = some v) => hw'.row.rs.get (i := j) (cs := R[j].cells) (by simp [hjR]) q (v := v) hq
    exact ⟨by simpa using hg 0 (.int .i64 R[j].f) (by simp [Ltr.cells]), by simpa using hg 1 (.int .i64 R[j].t) (by simp [Ltr.cells]), by simpa using hg 2 (.slice R[j].A R[j].d.length R[j].c) (by simp [Ltr.cells]), (hw'.data _ (List.getElem_mem hjR)).1⟩)
  have h0 : ¬ (j : Int) < 0 := by omega
  have HRI : Hid (∀ w' A' cap', RefR w' g2 (R.eraseIdx j) A' cap' Cs B capB room2 → (∀ b, A'.map (·.block) = some b → n ≤ b) → RI n w' g2 (V2.eraseIdx j) C2 room2 N) := Lib.hid (fun w' A' cap' hR hA => ⟨_, A', cap', Cs, B, capB, hR, ⟨hfr.1, hA, hfr.2.2.1, fun r hr => hfr.2.2.2 r (mem_erase hr)⟩, by rw [← hV, eraseIdx_map'], hCn, hC⟩)
  have hel : (R.eraseIdx j).length = R.length - 1 := by rw [List.length_eraseIdx, if_pos hjR]
  have HEL := Lib.hid hel
  have hrcap := h1.row.cap
  rw [List.length_map] at hrcap
  generalize R[j].f = f at *
  generalize R[j].t = t at *
  generalize R[j].A = DA at *
  generalize R[j].c = dc at *
  generalize R[j].d = da at *
  have hsp : er = 8 ∨ (er = 0 ∧ (pf == f) = false) ∨ (er = 0 ∧ f = pf ∧ (pt == t) = false) ∨ (er = 0 ∧ f = pf ∧ t = pt) := by
    rcases her with rfl | ⟨rfl, _⟩
    · by_cases q1 : f = pf
      · by_cases q2 : t = pt
        · exact .inr (.inr (.inr ⟨rfl, q1, q2⟩))
        · exact .inr (.inr (.inl ⟨rfl, q1, by simpa using fun e => q2 e.symm⟩))
      · exact .inr (.inl ⟨rfl, by simpa using fun e => q1 e.symm⟩)
    · exact .inl rfl
  clear her
  have hic : j ≤ cap := by omega
  have hiR := hjR
  clear h hat L hV h1 hRV hv hfr hCn hC hr hel
  rcases hsp with rfl | ⟨rfl, q1⟩ | ⟨rfl, rfl, q2⟩ | ⟨rfl, rfl, rfl⟩
  · go_enter Try.func29, Try.ntmps29
    go_wp2_with fail
    refine HL.out.mono ?_
    rintro e w2 ⟨D, c, d', rfl, hd, hd2, ho, hp, hk⟩
    have h2 := H1.out.tm hk.tm
    have c1 := h2.blk.cell 1 rfl
    obtain ⟨r0, r1, r2, _⟩ := HDAT.out w2 h2
    have hb3 : Below w2.heap.size w2 (w2.alloc (.cells #[.int .i64 f, .int .i64 t, .slice DA da.length dc] 68)) := (Below.refl _ _).alloc (Nat.le_refl _) _
    have hX3 := Blk.new w2 #[.int .i64 f, .int .i64 t, .slice DA da.length dc] 68
    obtain ⟨xb, hxb⟩ : ∃ xb, xb = w2.heap.size := ⟨_, rfl⟩
    rw [← hxb] at hX3
    have HXB := Lib.hid hxb
    have hn2 := Nat.le_trans hn hk.below.size
    have hB2 := hk.below
    have hs4 : xb + 1 ≤ ((w2.alloc (.cells #[.int .i64 f, .int .i64 t, .slice DA da.length dc] 68)).alloc (.cells #[] 68)).heap.size := by simp; omega
    have hb4 : Below w2.heap.size w2 ((w2.alloc (.cells #[.int .i64 f, .int .i64 t, .slice DA da.length dc] 68)).alloc (.cells #[] 68)) := hb3.alloc hb3.size _
    have h4 := h2.below hb4
    have hO4 : OR ((w2.alloc (.cells #[.int .i64 f, .int .i64 t, .slice DA da.length dc] 68)).alloc (.cells #[] 68)) (xb + 1) 68 3 (some ⟨w2.heap.size + 1, 0, none⟩) 0 [] := by
      have := OR.made0 (base := xb + 1) (w2.alloc (.cells #[.int .i64 f, .int .i64 t, .slice DA da.length dc] 68)) 68 3 (by have := HXB.out; simp; omega)
      rwa [show (w2.alloc (.cells #[.int .i64 f, .int .i64 t, .slice DA da.length dc] 68)).heap.size = w2.heap.size + 1 from by simp] at this
    obtain ⟨i0, hi0, hz0, hz1, hz2⟩ := info_parts rletter_info
    have hxw : xb = w2.heap.size := HXB.out
    have hi1 : j + 1 ≤ R.length := by omega
    have hi2 : j + 1 ≤ cap := by omega
    have c1' := (h2.below hb3).blk.cell 1 rfl
    have c1'' := h4.blk.cell 1 rfl
    clear hk HL hxb
    by_cases hj : j + 1 < cap
    · skip
      go_wp2_with (first
        | (at_builtin; refine wp_appendS _ rfl (.tmp 66) (.tmp 72) 42 68 rfl Try.underlying42 hi0 hz0 hz1 hz2 rfl (by decide) (xb + 1) _ (some ⟨bb, 0, none⟩) 0 cap [] ((R.map Ltr.cells).take j) rfl (by rw [List.length_take, List.length_map, Nat.min_eq_left (by omega)]; rfl) hO4 (h4.row.rs.take j) (fun r hr => Ltr.cells_len r (List.mem_of_mem_take hr)) (fun r hr => Ltr.cells_one r (List.mem_of_mem_take hr)) (by simp; omega) (by simp; omega) hs4 ?_
           intro ys5 A5 c5 w5 hy5 hy51 hy52 hrow5 hg5 _
           have hb5 : Below w2.heap.size w2 w5 := hb4.grown hg5 hb4.size (fun b hb => by simp at hb; omega)
           have h5 := h2.below hb5
           have c1 := h5.blk.cell 1 rfl
           simp only [List.length_nil, Nat.zero_add, List.length_take, List.length_map] at hy51 hy52)
        | (at_builtin; refine wp_appendS w5 rfl (.tmp 75) (.tmp 82) 42 68 rfl Try.underlying42 hi0 hz0 hz1 hz2 rfl (by decide) (xb + 1) A5 (some ⟨bb, (j + 1) * 3, none⟩) c5 (cap - (j + 1)) ys5 ((R.map Ltr.cells).drop (j + 1)) rfl (by rw [List.length_drop, List.length_map]; rfl) hrow5 (by have := h5.row.rs.drop (j + 1); rwa [Nat.zero_add] at this) (fun r hr => Ltr.cells_len r (List.mem_of_mem_drop hr)) (fun r hr => Ltr.cells_one r (List.mem_of_mem_drop hr)) (by simp; omega) (by simp; omega) (Nat.le_trans hs4 hg5.size) ?_
           intro ys6 A6 c6 w6 hy6 hy61 hy62 hrow6 hg6 _
           have hb6 : Below w2.heap.size w2 w6 := hb5.grown hg6 hb5.size (fun b hb => by have := (hrow5.blk_lt b hb).1; omega)
           clear c1
           have h6 := h2.below hb6
           have c1 := h6.blk.cell 1 rfl
           have f1 := h6.blk.free 1
           have hd6 : ys6 = (R.eraseIdx j).map Ltr.cells := by
             have e5 := hy5.out
             rw [List.nil_append] at e5
             rw [hy6.out, e5, ← eraseIdx_map', List.eraseIdx_eq_take_drop_succ]
           have hrow6' := hrow6.mono (Nat.zero_le _)
           have hyl : ys6.length = (R.eraseIdx j).length := by rw [hd6, List.length_map]
           rw [hd6] at hrow6'
           have h7 := h6.setList hrow6' (fun r hr => h6.data r (mem_erase hr)) (by rw [HEL.out]; omega) ys6.length hyl
           have hA6 : ∀ b, A6.map (·.block) = some b → n ≤ b := fun b hb => by have := (hrow6.blk_lt b hb).1; have := HXB.out; omega
           have hR7 := HRI.out _ A6 c6 h7 hA6
           have htm7 : TM badR w2 (w6.setCell ⟨g2, 1, none⟩ (.slice A6 ys6.length c6)) := (TM.below hb6).setCell (p := ⟨g2, 1, none⟩) (fun o ho => by rw [show w6.heap[g2]? = _ from h6.blk] at ho; injection ho with ho; subst ho; exact .inl rfl) _
           have hP7 := hp.tm htm7
           have hD7 : OB (w6.setCell ⟨g2, 1, none⟩ (.slice A6 ys6.length c6)) 0 D c d' := (ho.below hb6).setCell_ne (p := ⟨g2, 1, none⟩) ((ho.below hb6).ne_var h6.blk (by decide)) _
           have hE6 := (HDAT.out w6 h6).2.2.2
           have hE7 := hE6.setCell_ne (p := ⟨g2, 1, none⟩) (hE6.ne_var h6.blk (by decide)) (.slice A6 ys6.length c6)
           have hX7 := ((hX3.kept ((Below.refl _ _).alloc (Nat.le_refl _) (.cells #[] 68))).grown hg5 (fun e => by simp at e; omega)).grown hg6 (fun e => by have := (hrow5.blk_lt _ e).1; omega)
           have hX8 := hX7.setCell_other (a := ⟨g2, 1, none⟩) (.slice A6 ys6.length c6) (by have := h2.blk.lt; simp; omega)
           have hB7 := (hB2.trans (hb6.mono hn2)).setCell (p := ⟨g2, 1, none⟩) (by simpa using HFR.out.1) (.slice A6 ys6.length c6)
           have HF := fun r => Lib.hid (AnyE.of (r := r) hP7 hR7 hB7)
           have hc1 : (convert 33 9 (.slice D d'.length c)).run Try.prog (w6.setCell ⟨g2, 1, none⟩ (.slice A6 ys6.length c6)) = .ok (.string ⟨d'.toArray⟩) (w6.setCell ⟨g2, 1, none⟩ (.slice A6 ys6.length c6)) := convB c hD7.rb
           have hc2 : (convert 33 9 (.slice DA da.length dc)).run Try.prog (w6.setCell ⟨g2, 1, none⟩ (.slice A6 ys6.length c6)) = .ok (.string ⟨da.toArray⟩) (w6.setCell ⟨g2, 1, none⟩ (.slice A6 ys6.length c6)) := convB dc hE7.rb
           have x0 := hX8.cell 0 rfl
           have x1 := hX8.cell 1 rfl
           have x2 := hX8.cell 2 rfl
           rw [HXB.out] at x0 x1 x2
           clear hy6 hy61 hy62 hrow6 hg6 hb6 h6 hrow6' h7 hA6 hR7 htm7 hP7 hD7 hE6 hE7 hX7 hX8 hB7 hd6 hy5 hyl h5 hb5 hrow5 hg5 hX3 ho hp))
      go_ret
      exact (HF _).out
    · obtain rfl : cap = j + 1 := by omega
      go_wp2_with (first
        | (at_builtin; refine wp_appendS _ rfl (.tmp 66) (.tmp 72) 42 68 rfl Try.underlying42 hi0 hz0 hz1 hz2 rfl (by decide) (xb + 1) _ (some ⟨bb, 0, none⟩) 0 (j + 1) [] ((R.map Ltr.cells).take j) rfl (by rw [List.length_take, List.length_map, Nat.min_eq_left (by omega)]; rfl) hO4 (h4.row.rs.take j) (fun r hr => Ltr.cells_len r (List.mem_of_mem_take hr)) (fun r hr => Ltr.cells_one r (List.mem_of_mem_take hr)) (by simp; omega) (by simp; omega) hs4 ?_
           intro ys5 A5 c5 w5 hy5 hy51 hy52 hrow5 hg5 _
           have hb5 : Below w2.heap.size w2 w5 := hb4.grown hg5 hb4.size (fun b hb => by simp at hb; omega)
           have h5 := h2.below hb5
           have c1 := h5.blk.cell 1 rfl
           simp only [List.length_nil, Nat.zero_add, List.length_take, List.length_map] at hy51 hy52)
        | (at_builtin; refine wp_appendS w5 rfl (.tmp 75) (.tmp 82) 42 68 rfl Try.underlying42 hi0 hz0 hz1 hz2 rfl (by decide) (xb + 1) A5 (some ⟨bb, 0, none⟩) c5 0 ys5 ((R.map Ltr.cells).drop (j + 1)) rfl (by rw [List.drop_of_length_le (by rw [List.length_map]; omega)]; rfl) hrow5 (by rw [List.drop_of_length_le (by rw [List.length_map]; omega)]; exact RS.nil) (fun r hr => Ltr.cells_len r (List.mem_of_mem_drop hr)) (fun r hr => Ltr.cells_one r (List.mem_of_mem_drop hr)) (by simp; omega) (by simp; omega) (Nat.le_trans hs4 hg5.size) ?_
           intro ys6 A6 c6 w6 hy6 hy61 hy62 hrow6 hg6 _
           have hb6 : Below w2.heap.size w2 w6 := hb5.grown hg6 hb5.size (fun b hb => by have := (hrow5.blk_lt b hb).1; omega)
           clear c1
           have h6 := h2.below hb6
           have c1 := h6.blk.cell 1 rfl
           have f1 := h6.blk.free 1
           have hd6 : ys6 = (R.eraseIdx j).map Ltr.cells := by
             have e5 := hy5.out
             rw [List.nil_append] at e5
             rw [hy6.out, e5, ← eraseIdx_map', List.eraseIdx_eq_take_drop_succ]
           have hrow6' := hrow6.mono (Nat.zero_le _)
           have hyl : ys6.length = (R.eraseIdx j).length := by rw [hd6, List.length_map]
           rw [hd6] at hrow6'
           have h7 := h6.setList hrow6' (fun r hr => h6.data r (mem_erase hr)) (by rw [HEL.out]; omega) ys6.length hyl
           have hA6 : ∀ b, A6.map (·.block) = some b → n ≤ b := fun b hb => by have := (hrow6.blk_lt b hb).1; have := HXB.out; omega
           have hR7 := HRI.out _ A6 c6 h7 hA6
           have htm7 : TM badR w2 (w6.setCell ⟨g2, 1, none⟩ (.slice A6 ys6.length c6)) := (TM.below hb6).setCell (p := ⟨g2, 1, none⟩) (fun o ho => by rw [show w6.heap[g2]? = _ from h6.blk] at ho; injection ho with ho; subst ho; exact .inl rfl) _
           have hP7 := hp.tm htm7
           have hD7 : OB (w6.setCell ⟨g2, 1, none⟩ (.slice A6 ys6.length c6)) 0 D c d' := (ho.below hb6).setCell_ne (p := ⟨g2, 1, none⟩) ((ho.below hb6).ne_var h6.blk (by decide)) _
           have hE6 := (HDAT.out w6 h6).2.2.2
           have hE7 := hE6.setCell_ne (p := ⟨g2, 1, none⟩) (hE6.ne_var h6.blk (by decide)) (.slice A6 ys6.length c6)
           have hX7 := ((hX3.kept ((Below.refl _ _).alloc (Nat.le_refl _) (.cells #[] 68))).grown hg5 (fun e => by simp at e; omega)).grown hg6 (fun e => by have := (hrow5.blk_lt _ e).1; omega)
           have hX8 := hX7.setCell_other (a := ⟨g2, 1, none⟩) (.slice A6 ys6.length c6) (by have := h2.blk.lt; simp; omega)
           have hB7 := (hB2.trans (hb6.mono hn2)).setCell (p := ⟨g2, 1, none⟩) (by simpa using HFR.out.1) (.slice A6 ys6.length c6)
           have HF := fun r => Lib.hid (AnyE.of (r := r) hP7 hR7 hB7)
           have hc1 : (convert 33 9 (.slice D d'.length c)).run Try.prog (w6.setCell ⟨g2, 1, none⟩ (.slice A6 ys6.length c6)) = .ok (.string ⟨d'.toArray⟩) (w6.setCell ⟨g2, 1, none⟩ (.slice A6 ys6.length c6)) := convB c hD7.rb
           have hc2 : (convert 33 9 (.slice DA da.length dc)).run Try.prog (w6.setCell ⟨g2, 1, none⟩ (.slice A6 ys6.length c6)) = .ok (.string ⟨da.toArray⟩) (w6.setCell ⟨g2, 1, none⟩ (.slice A6 ys6.length c6)) := convB dc hE7.rb
           have x0 := hX8.cell 0 rfl
           have x1 := hX8.cell 1 rfl
           have x2 := hX8.cell 2 rfl
           rw [HXB.out] at x0 x1 x2
           clear hy6 hy61 hy62 hrow6 hg6 hb6 h6 hrow6' h7 hA6 hR7 htm7 hP7 hD7 hE6 hE7 hX7 hX8 hB7 hd6 hy5 hyl h5 hb5 hrow5 hg5 hX3 ho hp))
      go_ret
      exact (HF _).out
  · go_enter Try.func29, Try.ntmps29
    go_wp2_with fail
    refine HL.out.mono ?_
    rintro e w2 ⟨D, c, d', rfl, hd, hd2, ho, hp, hk⟩
    have h2 := H1.out.tm hk.tm
    have c1 := h2.blk.cell 1 rfl
    obtain ⟨r0, r1, r2, _⟩ := HDAT.out w2 h2
    have hb3 : Below w2.heap.size w2 (w2.alloc (.cells #[.int .i64 f, .int .i64 t, .slice DA da.length dc] 68)) := (Below.refl _ _).alloc (Nat.le_refl _) _
    have hX3 := Blk.new w2 #[.int .i64 f, .int .i64 t, .slice DA da.length dc] 68
    obtain ⟨xb, hxb⟩ : ∃ xb, xb = w2.heap.size := ⟨_, rfl⟩
    rw [← hxb] at hX3
    have HXB := Lib.hid hxb
    have hn2 := Nat.le_trans hn hk.below.size
    have hB2 := hk.below
    have hs4 : xb + 1 ≤ ((w2.alloc (.cells #[.int .i64 f, .int .i64 t, .slice DA da.length dc] 68)).alloc (.cells #[] 68)).heap.size := by simp; omega
    have hb4 : Below w2.heap.size w2 ((w2.alloc (.cells #[.int .i64 f, .int .i64 t, .slice DA da.length dc] 68)).alloc (.cells #[] 68)) := hb3.alloc hb3.size _
    have h4 := h2.below hb4
    have hO4 : OR ((w2.alloc (.cells #[.int .i64 f, .int .i64 t, .slice DA da.length dc] 68)).alloc (.cells #[] 68)) (xb + 1) 68 3 (some ⟨w2.heap.size + 1, 0, none⟩) 0 [] := by
      have := OR.made0 (base := xb + 1) (w2.alloc (.cells #[.int .i64 f, .int .i64 t, .slice DA da.length dc] 68)) 68 3 (by have := HXB.out; simp; omega)
      rwa [show (w2.alloc (.cells #[.int .i64 f, .int .i64 t, .slice DA da.length dc] 68)).heap.size = w2.heap.size + 1 from by simp] at this
    obtain ⟨i0, hi0, hz0, hz1, hz2⟩ := info_parts rletter_info
    have hxw : xb = w2.heap.size := HXB.out
    have hi1 : j + 1 ≤ R.length := by omega
    have hi2 : j + 1 ≤ cap := by omega
    have c1' := (h2.below hb3).blk.cell 1 rfl
    have c1'' := h4.blk.cell 1 rfl
    clear hk HL hxb
    by_cases hj : j + 1 < cap
    · skip
      go_wp2_with (first
        | (at_builtin; refine wp_appendS _ rfl (.tmp 66) (.tmp 72) 42 68 rfl Try.underlying42 hi0 hz0 hz1 hz2 rfl (by decide) (xb + 1) _ (some ⟨bb, 0, none⟩) 0 cap [] ((R.map Ltr.cells).take j) rfl (by rw [List.length_take, List.length_map, Nat.min_eq_left (by omega)]; rfl) hO4 (h4.row.rs.take j) (fun r hr => Ltr.cells_len r (List.mem_of_mem_take hr)) (fun r hr => Ltr.cells_one r (List.mem_of_mem_take hr)) (by simp; omega) (by simp; omega) hs4 ?_
           intro ys5 A5 c5 w5 hy5 hy51 hy52 hrow5 hg5 _
           have hb5 : Below w2.heap.size w2 w5 := hb4.grown hg5 hb4.size (fun b hb => by simp at hb; omega)
           have h5 := h2.below hb5
           have c1 := h5.blk.cell 1 rfl
           simp only [List.length_nil, Nat.zero_add, List.length_take, List.length_map] at hy51 hy52)
        | (at_builtin; refine wp_appendS w5 rfl (.tmp 75) (.tmp 82) 42 68 rfl Try.underlying42 hi0 hz0 hz1 hz2 rfl (by decide) (xb + 1) A5 (some ⟨bb, (j + 1) * 3, none⟩) c5 (cap - (j + 1)) ys5 ((R.map Ltr.cells).drop (j + 1)) rfl (by rw [List.length_drop, List.length_map]; rfl) hrow5 (by have := h5.row.rs.drop (j + 1); rwa [Nat.zero_add] at this) (fun r hr => Ltr.cells_len r (List.mem_of_mem_drop hr)) (fun r hr => Ltr.cells_one r (List.mem_of_mem_drop hr)) (by simp; omega) (by simp; omega) (Nat.le_trans hs4 hg5.size) ?_
           intro ys6 A6 c6 w6 hy6 hy61 hy62 hrow6 hg6 _
           have hb6 : Below w2.heap.size w2 w6 := hb5.grown hg6 hb5.size (fun b hb => by have := (hrow5.blk_lt b hb).1; omega)
           clear c1
           have h6 := h2.below hb6
           have c1 := h6.blk.cell 1 rfl
           have f1 := h6.blk.free 1
           have hd6 : ys6 = (R.eraseIdx j).map Ltr.cells := by
             have e5 := hy5.out
             rw [List.nil_append] at e5
             rw [hy6.out, e5, ← eraseIdx_map', List.eraseIdx_eq_take_drop_succ]
           have hrow6' := hrow6.mono (Nat.zero_le _)
           have hyl : ys6.length = (R.eraseIdx j).length := by rw [hd6, List.length_map]
           rw [hd6] at hrow6'
           have h7 := h6.setList hrow6' (fun r hr => h6.data r (mem_erase hr)) (by rw [HEL.out]; omega) ys6.length hyl
           have hA6 : ∀ b, A6.map (·.block) = some b → n ≤ b := fun b hb => by have := (hrow6.blk_lt b hb).1; have := HXB.out; omega
           have hR7 := HRI.out _ A6 c6 h7 hA6
           have htm7 : TM badR w2 (w6.setCell ⟨g2, 1, none⟩ (.slice A6 ys6.length c6)) := (TM.below hb6).setCell (p := ⟨g2, 1, none⟩) (fun o ho => by rw [show w6.heap[g2]? = _ from h6.blk] at ho; injection ho with ho; subst ho; exact .inl rfl) _
           have hP7 := hp.tm htm7
           have hD7 : OB (w6.setCell ⟨g2, 1, none⟩ (.slice A6 ys6.length c6)) 0 D c d' := (ho.below hb6).setCell_ne (p := ⟨g2, 1, none⟩) ((ho.below hb6).ne_var h6.blk (by decide)) _
           have hE6 := (HDAT.out w6 h6).2.2.2
           have hE7 := hE6.setCell_ne (p := ⟨g2, 1, none⟩) (hE6.ne_var h6.blk (by decide)) (.slice A6 ys6.length c6)
           have hX7 := ((hX3.kept ((Below.refl _ _).alloc (Nat.le_refl _) (.cells #[] 68))).grown hg5 (fun e => by simp at e; omega)).grown hg6 (fun e => by have := (hrow5.blk_lt _ e).1; omega)
           have hX8 := hX7.setCell_other (a := ⟨g2, 1, none⟩) (.slice A6 ys6.length c6) (by have := h2.blk.lt; simp; omega)
           have hB7 := (hB2.trans (hb6.mono hn2)).setCell (p := ⟨g2, 1, none⟩) (by simpa using HFR.out.1) (.slice A6 ys6.length c6)
           have HF := fun r => Lib.hid (AnyE.of (r := r) hP7 hR7 hB7)
           have hc1 : (convert 33 9 (.slice D d'.length c)).run Try.prog (w6.setCell ⟨g2, 1, none⟩ (.slice A6 ys6.length c6)) = .ok (.string ⟨d'.toArray⟩) (w6.setCell ⟨g2, 1, none⟩ (.slice A6 ys6.length c6)) := convB c hD7.rb
           have hc2 : (convert 33 9 (.slice DA da.length dc)).run Try.prog (w6.setCell ⟨g2, 1, none⟩ (.slice A6 ys6.length c6)) = .ok (.string ⟨da.toArray⟩) (w6.setCell ⟨g2, 1, none⟩ (.slice A6 ys6.length c6)) := convB dc hE7.rb
           have x0 := hX8.cell 0 rfl
           have x1 := hX8.cell 1 rfl
           have x2 := hX8.cell 2 rfl
           rw [HXB.out] at x0 x1 x2
           clear hy6 hy61 hy62 hrow6 hg6 hb6 h6 hrow6' h7 hA6 hR7 htm7 hP7 hD7 hE6 hE7 hX7 hX8 hB7 hd6 hy5 hyl h5 hb5 hrow5 hg5 hX3 ho hp))
      go_ret
      exact (HF _).out
    · obtain rfl : cap = j + 1 := by omega
      go_wp2_with (first
        | (at_builtin; refine wp_appendS _ rfl (.tmp 66) (.tmp 72) 42 68 rfl Try.underlying42 hi0 hz0 hz1 hz2 rfl (by decide) (xb + 1) _ (some ⟨bb, 0, none⟩) 0 (j + 1) [] ((R.map Ltr.cells).take j) rfl (by rw [List.length_take, List.length_map, Nat.min_eq_left (by omega)]; rfl) hO4 (h4.row.rs.take j) (fun r hr => Ltr.cells_len r (List.mem_of_mem_take hr)) (fun r hr => Ltr.cells_one r (List.mem_of_mem_take hr)) (by simp; omega) (by simp; omega) hs4 ?_
           intro ys5 A5 c5 w5 hy5 hy51 hy52 hrow5 hg5 _
           have hb5 : Below w2.heap.size w2 w5 := hb4.grown hg5 hb4.size (fun b hb => by simp at hb; omega)
           have h5 := h2.below hb5
           have c1 := h5.blk.cell 1 rfl
           simp only [List.length_nil, Nat.zero_add, List.length_take, List.length_map] at hy51 hy52)
        | (at_builtin; refine wp_appendS w5 rfl (.tmp 75) (.tmp 82) 42 68 rfl Try.underlying42 hi0 hz0 hz1 hz2 rfl (by decide) (xb + 1) A5 (some ⟨bb, 0, none⟩) c5 0 ys5 ((R.map Ltr.cells).drop (j + 1)) rfl (by rw [List.drop_of_length_le (by rw [List.length_map]; omega)]; rfl) hrow5 (by rw [List.drop_of_length_le (by rw [List.length_map]; omega)]; exact RS.nil) (fun r hr => Ltr.cells_len r (List.mem_of_mem_drop hr)) (fun r hr => Ltr.cells_one r (List.mem_of_mem_drop hr)) (by simp; omega) (by simp; omega) (Nat.le_trans hs4 hg5.size) ?_
           intro ys6 A6 c6 w6 hy6 hy61 hy62 hrow6 hg6 _
           have hb6 : Below w2.heap.size w2 w6 := hb5.grown hg6 hb5.size (fun b hb => by have := (hrow5.blk_lt b hb).1; omega)
           clear c1
           have h6 := h2.below hb6
           have c1 := h6.blk.cell 1 rfl
           have f1 := h6.blk.free 1
           have hd6 : ys6 = (R.eraseIdx j).map Ltr.cells := by
             have e5 := hy5.out
             rw [List.nil_append] at e5
             rw [hy6.out, e5, ← eraseIdx_map', List.eraseIdx_eq_take_drop_succ]
           have hrow6' := hrow6.mono (Nat.zero_le _)
           have hyl : ys6.length = (R.eraseIdx j).length := by rw [hd6, List.length_map]
           rw [hd6] at hrow6'
           have h7 := h6.setList hrow6' (fun r hr => h6.data r (mem_erase hr)) (by rw [HEL.out]; omega) ys6.length hyl
           have hA6 : ∀ b, A6.map (·.block) = some b → n ≤ b := fun b hb => by have := (hrow6.blk_lt b hb).1; have := HXB.out; omega
           have hR7 := HRI.out _ A6 c6 h7 hA6
           have htm7 : TM badR w2 (w6.setCell ⟨g2, 1, none⟩ (.slice A6 ys6.length c6)) := (TM.below hb6).setCell (p := ⟨g2, 1, none⟩) (fun o ho => by rw [show w6.heap[g2]? = _ from h6.blk] at ho; injection ho with ho; subst ho; exact .inl rfl) _
           have hP7 := hp.tm htm7
           have hD7 : OB (w6.setCell ⟨g2, 1, none⟩ (.slice A6 ys6.length c6)) 0 D c d' := (ho.below hb6).setCell_ne (p := ⟨g2, 1, none⟩) ((ho.below hb6).ne_var h6.blk (by decide)) _
           have hE6 := (HDAT.out w6 h6).2.2.2
           have hE7 := hE6.setCell_ne (p := ⟨g2, 1, none⟩) (hE6.ne_var h6.blk (by decide)) (.slice A6 ys6.length c6)
           have hX7 := ((hX3.kept ((Below.refl _ _).alloc (Nat.le_refl _) (.cells #[] 68))).grown hg5 (fun e => by simp at e; omega)).grown hg6 (fun e => by have := (hrow5.blk_lt _ e).1; omega)
           have hX8 := hX7.setCell_other (a := ⟨g2, 1, none⟩) (.slice A6 ys6.length c6) (by have := h2.blk.lt; simp; omega)
           have hB7 := (hB2.trans (hb6.mono hn2)).setCell (p := ⟨g2, 1, none⟩) (by simpa using HFR.out.1) (.slice A6 ys6.length c6)
           have HF := fun r => Lib.hid (AnyE.of (r := r) hP7 hR7 hB7)
           have hc1 : (convert 33 9 (.slice D d'.length c)).run Try.prog (w6.setCell ⟨g2, 1, none⟩ (.slice A6 ys6.length c6)) = .ok (.string ⟨d'.toArray⟩) (w6.setCell ⟨g2, 1, none⟩ (.slice A6 ys6.length c6)) := convB c hD7.rb
           have hc2 : (convert 33 9 (.slice DA da.length dc)).run Try.prog (w6.setCell ⟨g2, 1, none⟩ (.slice A6 ys6.length c6)) = .ok (.string ⟨da.toArray⟩) (w6.setCell ⟨g2, 1, none⟩ (.slice A6 ys6.length c6)) := convB dc hE7.rb
           have x0 := hX8.cell 0 rfl
           have x1 := hX8.cell 1 rfl
           have x2 := hX8.cell 2 rfl
           rw [HXB.out] at x0 x1 x2
           clear hy6 hy61 hy62 hrow6 hg6 hb6 h6 hrow6' h7 hA6 hR7 htm7 hP7 hD7 hE6 hE7 hX7 hX8 hB7 hd6 hy5 hyl h5 hb5 hrow5 hg5 hX3 ho hp))
      go_ret
      exact (HF _).out
  · go_enter Try.func29, Try.ntmps29
    go_wp2_with fail
    refine HL.out.mono ?_
    rintro e w2 ⟨D, c, d', rfl, hd, hd2, ho, hp, hk⟩
    have h2 := H1.out.tm hk.tm
    have c1 := h2.blk.cell 1 rfl
    obtain ⟨r0, r1, r2, _⟩ := HDAT.out w2 h2
    have hb3 : Below w2.heap.size w2 (w2.alloc (.cells #[.int .i64 f, .int .i64 t, .slice DA da.length dc] 68)) := (Below.refl _ _).alloc (Nat.le_refl _) _
    have hX3 := Blk.new w2 #[.int .i64 f, .int .i64 t, .slice DA da.length dc] 68
    obtain ⟨xb, hxb⟩ : ∃ xb, xb = w2.heap.size := ⟨_, rfl⟩
    rw [← hxb] at hX3
    have HXB := Lib.hid hxb
    have hn2 := Nat.le_trans hn hk.below.size
    have hB2 := hk.below
    have hs4 : xb + 1 ≤ ((w2.alloc (.cells #[.int .i64 f, .int .i64 t, .slice DA da.length dc] 68)).alloc (.cells #[] 68)).heap.size := by simp; omega
    have hb4 : Below w2.heap.size w2 ((w2.alloc (.cells #[.int .i64 f, .int .i64 t, .slice DA da.length dc] 68)).alloc (.cells #[] 68)) := hb3.alloc hb3.size _
    have h4 := h2.below hb4
    have hO4 : OR ((w2.alloc (.cells #[.int .i64 f, .int .i64 t, .slice DA da.length dc] 68)).alloc (.cells #[] 68)) (xb + 1) 68 3 (some ⟨w2.heap.size + 1, 0, none⟩) 0 [] := by
      have := OR.made0 (base := xb + 1) (w2.alloc (.cells #[.int .i64 f, .int .i64 t, .slice DA da.length dc] 68)) 68 3 (by have := HXB.out; simp; omega)
      rwa [show (w2.alloc (.cells #[.int .i64 f, .int .i64 t, .slice DA da.length dc] 68)).heap.size = w2.heap.size + 1 from by simp] at this
    obtain ⟨i0, hi0, hz0, hz1, hz2⟩ := info_parts rletter_info
    have hxw : xb = w2.heap.size := HXB.out
    have hi1 : j + 1 ≤ R.length := by omega
    have hi2 : j + 1 ≤ cap := by omega
    have c1' := (h2.below hb3).blk.cell 1 rfl
    have c1'' := h4.blk.cell 1 rfl
    clear hk HL hxb
    by_cases hj : j + 1 < cap
    · skip
      go_wp2_with (first
        | (at_builtin; refine wp_appendS _ rfl (.tmp 66) (.tmp 72) 42 68 rfl Try.underlying42 hi0 hz0 hz1 hz2 rfl (by decide) (xb + 1) _ (some ⟨bb, 0, none⟩) 0 cap [] ((R.map Ltr.cells).take j) rfl (by rw [List.length_take, List.length_map, Nat.min_eq_left (by omega)]; rfl) hO4 (h4.row.rs.take j) (fun r hr => Ltr.cells_len r (List.mem_of_mem_take hr)) (fun r hr => Ltr.cells_one r (List.mem_of_mem_take hr)) (by simp; omega) (by simp; omega) hs4 ?_
           intro ys5 A5 c5 w5 hy5 hy51 hy52 hrow5 hg5 _
           have hb5 : Below w2.heap.size w2 w5 := hb4.grown hg5 hb4.size (fun b hb => by simp at hb; omega)
           have h5 := h2.below hb5
           have c1 := h5.blk.cell 1 rfl
           simp only [List.length_nil, Nat.zero_add, List.length_take, List.length_map] at hy51 hy52)
        | (at_builtin; refine wp_appendS w5 rfl (.tmp 75) (.tmp 82) 42 68 rfl Try.underlying42 hi0 hz0 hz1 hz2 rfl (by decide) (xb + 1) A5 (some ⟨bb, (j + 1) * 3, none⟩) c5 (cap - (j + 1)) ys5 ((R.map Ltr.cells).drop (j + 1)) rfl (by rw [List.length_drop, List.length_map]; rfl) hrow5 (by have := h5.row.rs.drop (j + 1); rwa [Nat.zero_add] at this) (fun r hr => Ltr.cells_len r (List.mem_of_mem_drop hr)) (fun r hr => Ltr.cells_one r (List.mem_of_mem_drop hr)) (by simp; omega) (by simp; omega) (Nat.le_trans hs4 hg5.size) ?_
           intro ys6 A6 c6 w6 hy6 hy61 hy62 hrow6 hg6 _
           have hb6 : Below w2.heap.size w2 w6 := hb5.grown hg6 hb5.size (fun b hb => by have := (hrow5.blk_lt b hb).1; omega)
           clear c1
           have h6 := h2.below hb6
           have c1 := h6.blk.cell 1 rfl
           have f1 := h6.blk.free 1
           have hd6 : ys6 = (R.eraseIdx j).map Ltr.cells := by
             have e5 := hy5.out
             rw [List.nil_append] at e5
             rw [hy6.out, e5, ← eraseIdx_map', List.eraseIdx_eq_take_drop_succ]
           have hrow6' := hrow6.mono (Nat.zero_le _)
           have hyl : ys6.length = (R.eraseIdx j).length := by rw [hd6, List.length_map]
           rw [hd6] at hrow6'
           have h7 := h6.setList hrow6' (fun r hr => h6.data r (mem_erase hr)) (by rw [HEL.out]; omega) ys6.length hyl
           have hA6 : ∀ b, A6.map (·.block) = some b → n ≤ b := fun b hb => by have := (hrow6.blk_lt b hb).1; have := HXB.out; omega
           have hR7 := HRI.out _ A6 c6 h7 hA6
           have htm7 : TM badR w2 (w6.setCell ⟨g2, 1, none⟩ (.slice A6 ys6.length c6)) := (TM.below hb6).setCell (p := ⟨g2, 1, none⟩) (fun o ho => by rw [show w6.heap[g2]? = _ from h6.blk] at ho; injection ho with ho; subst ho; exact .inl rfl) _
           have hP7 := hp.tm htm7
           have hD7 : OB (w6.setCell ⟨g2, 1, none⟩ (.slice A6 ys6.length c6)) 0 D c d' := (ho.below hb6).setCell_ne (p := ⟨g2, 1, none⟩) ((ho.below hb6).ne_var h6.blk (by decide)) _
           have hE6 := (HDAT.out w6 h6).2.2.2
           have hE7 := hE6.setCell_ne (p := ⟨g2, 1, none⟩) (hE6.ne_var h6.blk (by decide)) (.slice A6 ys6.length c6)
           have hX7 := ((hX3.kept ((Below.refl _ _).alloc (Nat.le_refl _) (.cells #[] 68))).grown hg5 (fun e => by simp at e; omega)).grown hg6 (fun e => by have := (hrow5.blk_lt _ e).1; omega)
           have hX8 := hX7.setCell_other (a := ⟨g2, 1, none⟩) (.slice A6 ys6.length c6) (by have := h2.blk.lt; simp; omega)
           have hB7 := (hB2.trans (hb6.mono hn2)).setCell (p := ⟨g2, 1, none⟩) (by simpa using HFR.out.1) (.slice A6 ys6.length c6)
           have HF := fun r => Lib.hid (AnyE.of (r := r) hP7 hR7 hB7)
           have hc1 : (convert 33 9 (.slice D d'.length c)).run Try.prog (w6.setCell ⟨g2, 1, none⟩ (.slice A6 ys6.length c6)) = .ok (.string ⟨d'.toArray⟩) (w6.setCell ⟨g2, 1, none⟩ (.slice A6 ys6.length c6)) := convB c hD7.rb
           have hc2 : (convert 33 9 (.slice DA da.length dc)).run Try.prog (w6.setCell ⟨g2, 1, none⟩ (.slice A6 ys6.length c6)) = .ok (.string ⟨da.toArray⟩) (w6.setCell ⟨g2, 1, none⟩ (.slice A6 ys6.length c6)) := convB dc hE7.rb
           have x0 := hX8.cell 0 rfl
           have x1 := hX8.cell 1 rfl
           have x2 := hX8.cell 2 rfl
           rw [HXB.out] at x0 x1 x2
           clear hy6 hy61 hy62 hrow6 hg6 hb6 h6 hrow6' h7 hA6 hR7 htm7 hP7 hD7 hE6 hE7 hX7 hX8 hB7 hd6 hy5 hyl h5 hb5 hrow5 hg5 hX3 ho hp))
      go_ret
      exact (HF _).out
    · obtain rfl : cap = j + 1 := by omega
      go_wp2_with (first
        | (at_builtin; refine wp_appendS _ rfl (.tmp 66) (.tmp 72) 42 68 rfl Try.underlying42 hi0 hz0 hz1 hz2 rfl (by decide) (xb + 1) _ (some ⟨bb, 0, none⟩) 0 (j + 1) [] ((R.map Ltr.cells).take j) rfl (by rw [List.length_take, List.length_map, Nat.min_eq_left (by omega)]; rfl) hO4 (h4.row.rs.take j) (fun r hr => Ltr.cells_len r (List.mem_of_mem_take hr)) (fun r hr => Ltr.cells_one r (List.mem_of_mem_take hr)) (by simp; omega) (by simp; omega) hs4 ?_
           intro ys5 A5 c5 w5 hy5 hy51 hy52 hrow5 hg5 _
           have hb5 : Below w2.heap.size w2 w5 := hb4.grown hg5 hb4.size (fun b hb => by simp at hb; omega)
           have h5 := h2.below hb5
           have c1 := h5.blk.cell 1 rfl
           simp only [List.length_nil, Nat.zero_add, List.length_take, List.length_map] at hy51 hy52)
        | (at_builtin; refine wp_appendS w5 rfl (.tmp 75) (.tmp 82) 42 68 rfl Try.underlying42 hi0 hz0 hz1 hz2 rfl (by decide) (xb + 1) A5 (some ⟨bb, 0, none⟩) c5 0 ys5 ((R.map Ltr.cells).drop (j + 1)) rfl (by rw [List.drop_of_length_le (by rw [List.length_map]; omega)]; rfl) hrow5 (by rw [List.drop_of_length_le (by rw [List.length_map]; omega)]; exact RS.nil) (fun r hr => Ltr.cells_len r (List.mem_of_mem_drop hr)) (fun r hr => Ltr.cells_one r (List.mem_of_mem_drop hr)) (by simp; omega) (by simp; omega) (Nat.le_trans hs4 hg5.size) ?_
           intro ys6 A6 c6 w6 hy6 hy61 hy62 hrow6 hg6 _
           have hb6 : Below w2.heap.size w2 w6 := hb5.grown hg6 hb5.size (fun b hb => by have := (hrow5.blk_lt b hb).1; omega)
           clear c1
           have h6 := h2.below hb6
           have c1 := h6.blk.cell 1 rfl
           have f1 := h6.blk.free 1
           have hd6 : ys6 = (R.eraseIdx j).map Ltr.cells := by
             have e5 := hy5.out
             rw [List.nil_append] at e5
             rw [hy6.out, e5, ← eraseIdx_map', List.eraseIdx_eq_take_drop_succ]
           have hrow6' := hrow6.mono (Nat.zero_le _)
           have hyl : ys6.length = (R.eraseIdx j).length := by rw [hd6, List.length_map]
           rw [hd6] at hrow6'
           have h7 := h6.setList hrow6' (fun r hr => h6.data r (mem_erase hr)) (by rw [HEL.out]; omega) ys6.length hyl
           have hA6 : ∀ b, A6.map (·.block) = some b → n ≤ b := fun b hb => by have := (hrow6.blk_lt b hb).1; have := HXB.out; omega
           have hR7 := HRI.out _ A6 c6 h7 hA6
           have htm7 : TM badR w2 (w6.setCell ⟨g2, 1, none⟩ (.slice A6 ys6.length c6)) := (TM.below hb6).setCell (p := ⟨g2, 1, none⟩) (fun o ho => by rw [show w6.heap[g2]? = _ from h6.blk] at ho; injection ho with ho; subst ho; exact .inl rfl) _
           have hP7 := hp.tm htm7
           have hD7 : OB (w6.setCell ⟨g2, 1, none⟩ (.slice A6 ys6.length c6)) 0 D c d' := (ho.below hb6).setCell_ne (p := ⟨g2, 1, none⟩) ((ho.below hb6).ne_var h6.blk (by decide)) _
           have hE6 := (HDAT.out w6 h6).2.2.2
           have hE7 := hE6.setCell_ne (p := ⟨g2, 1, none⟩) (hE6.ne_var h6.blk (by decide)) (.slice A6 ys6.length c6)
           have hX7 := ((hX3.kept ((Below.refl _ _).alloc (Nat.le_refl _) (.cells #[] 68))).grown hg5 (fun e => by simp at e; omega)).grown hg6 (fun e => by have := (hrow5.blk_lt _ e).1; omega)
           have hX8 := hX7.setCell_other (a := ⟨g2, 1, none⟩) (.slice A6 ys6.length c6) (by have := h2.blk.lt; simp; omega)
           have hB7 := (hB2.trans (hb6.mono hn2)).setCell (p := ⟨g2, 1, none⟩) (by simpa using HFR.out.1) (.slice A6 ys6.length c6)
           have HF := fun r => Lib.hid (AnyE.of (r := r) hP7 hR7 hB7)
           have hc1 : (convert 33 9 (.slice D d'.length c)).run Try.prog (w6.setCell ⟨g2, 1, none⟩ (.slice A6 ys6.length c6)) = .ok (.string ⟨d'.toArray⟩) (w6.setCell ⟨g2, 1, none⟩ (.slice A6 ys6.length c6)) := convB c hD7.rb
           have hc2 : (convert 33 9 (.slice DA da.length dc)).run Try.prog (w6.setCell ⟨g2, 1, none⟩ (.slice A6 ys6.length c6)) = .ok (.string ⟨da.toArray⟩) (w6.setCell ⟨g2, 1, none⟩ (.slice A6 ys6.length c6)) := convB dc hE7.rb
           have x0 := hX8.cell 0 rfl
           have x1 := hX8.cell 1 rfl
           have x2 := hX8.cell 2 rfl
           rw [HXB.out] at x0 x1 x2
           clear hy6 hy61 hy62 hrow6 hg6 hb6 h6 hrow6' h7 hA6 hR7 htm7 hP7 hD7 hE6 hE7 hX7 hX8 hB7 hd6 hy5 hyl h5 hb5 hrow5 hg5 hX3 ho hp))
      go_ret
      exact (HF _).out
  · go_enter Try.func29, Try.ntmps29
    go_wp2_with fail
    refine HL.out.mono ?_
    rintro e w2 ⟨D, c, d', rfl, hd, hd2, ho, hp, hk⟩
    have h2 := H1.out.tm hk.tm
    have c1 := h2.blk.cell 1 rfl
    obtain ⟨r0, r1, r2, _⟩ := HDAT.out w2 h2
    have hb3 : Below w2.heap.size w2 (w2.alloc (.cells #[.int .i64 f, .int .i64 t, .slice DA da.length dc] 68)) := (Below.refl _ _).alloc (Nat.le_refl _) _
    have hX3 := Blk.new w2 #[.int .i64 f, .int .i64 t, .slice DA da.length dc] 68
    obtain ⟨xb, hxb⟩ : ∃ xb, xb = w2.heap.size := ⟨_, rfl⟩
    rw [← hxb] at hX3
    have HXB := Lib.hid hxb
    have hn2 := Nat.le_trans hn hk.below.size
    have hB2 := hk.below
    have hs4 : xb + 1 ≤ ((w2.alloc (.cells #[.int .i64 f, .int .i64 t, .slice DA da.length dc] 68)).alloc (.cells #[] 68)).heap.size := by simp; omega
    have hb4 : Below w2.heap.size w2 ((w2.alloc (.cells #[.int .i64 f, .int .i64 t, .slice DA da.length dc] 68)).alloc (.cells #[] 68)) := hb3.alloc hb3.size _
    have h4 := h2.below hb4
    have hO4 : OR ((w2.alloc (.cells #[.int .i64 f, .int .i64 t, .slice DA da.length dc] 68)).alloc (.cells #[] 68)) (xb + 1) 68 3 (some ⟨w2.heap.size + 1, 0, none⟩) 0 [] := by
      have := OR.made0 (base := xb + 1) (w2.alloc (.cells #[.int .i64 f, .int .i64 t, .slice DA da.length dc] 68)) 68 3 (by have := HXB.out; simp; omega)
      rwa [show (w2.alloc (.cells #[.int .i64 f, .int .i64 t, .slice DA da.length dc] 68)).heap.size = w2.heap.size + 1 from by simp] at this
    obtain ⟨i0, hi0, hz0, hz1, hz2⟩ := info_parts rletter_info
    have hxw : xb = w2.heap.size := HXB.out
    have hi1 : j + 1 ≤ R.length := by omega
    have hi2 : j + 1 ≤ cap := by omega
    have c1' := (h2.below hb3).blk.cell 1 rfl
    have c1'' := h4.blk.cell 1 rfl
    clear hk HL hxb
    by_cases hj : j + 1 < cap
    · skip
      go_wp2_with (first
        | (at_builtin; refine wp_appendS _ rfl (.tmp 66) (.tmp 72) 42 68 rfl Try.underlying42 hi0 hz0 hz1 hz2 rfl (by decide) (xb + 1) _ (some ⟨bb, 0, none⟩) 0 cap [] ((R.map Ltr.cells).take j) rfl (by rw [List.length_take, List.length_map, Nat.min_eq_left (by omega)]; rfl) hO4 (h4.row.rs.take j) (fun r hr => Ltr.cells_len r (List.mem_of_mem_take hr)) (fun r hr => Ltr.cells_one r (List.mem_of_mem_take hr)) (by simp; omega) (by simp; omega) hs4 ?_
           intro ys5 A5 c5 w5 hy5 hy51 hy52 hrow5 hg5 _
           have hb5 : Below w2.heap.size w2 w5 := hb4.grown hg5 hb4.size (fun b hb => by simp at hb; omega)
           have h5 := h2.below hb5
           have c1 := h5.blk.cell 1 rfl
           simp only [List.length_nil, Nat.zero_add, List.length_take, List.length_map] at hy51 hy52)
        | (at_builtin; refine wp_appendS w5 rfl (.tmp 75) (.tmp 82) 42 68 rfl Try.underlying42 hi0 hz0 hz1 hz2 rfl (by decide) (xb + 1) A5 (some ⟨bb, (j + 1) * 3, none⟩) c5 (cap - (j + 1)) ys5 ((R.map Ltr.cells).drop (j + 1)) rfl (by rw [List.length_drop, List.length_map]; rfl) hrow5 (by have := h5.row.rs.drop (j + 1); rwa [Nat.zero_add] at this) (fun r hr => Ltr.cells_len r (List.mem_of_mem_drop hr)) (fun r hr => Ltr.cells_one r (List.mem_of_mem_drop hr)) (by simp; omega) (by simp; omega) (Nat.le_trans hs4 hg5.size) ?_
           intro ys6 A6 c6 w6 hy6 hy61 hy62 hrow6 hg6 _
           have hb6 : Below w2.heap.size w2 w6 := hb5.grown hg6 hb5.size (fun b hb => by have := (hrow5.blk_lt b hb).1; omega)
           clear c1
           have h6 := h2.below hb6
           have c1 := h6.blk.cell 1 rfl
           have f1 := h6.blk.free 1
           have hd6 : ys6 = (R.eraseIdx j).map Ltr.cells := by
             have e5 := hy5.out
             rw [List.nil_append] at e5
             rw [hy6.out, e5, ← eraseIdx_map', List.eraseIdx_eq_take_drop_succ]
           have hrow6' := hrow6.mono (Nat.zero_le _)
           have hyl : ys6.length = (R.eraseIdx j).length := by rw [hd6, List.length_map]
           rw [hd6] at hrow6'
           have h7 := h6.setList hrow6' (fun r hr => h6.data r (mem_erase hr)) (by rw [HEL.out]; omega) ys6.length hyl
           have hA6 : ∀ b, A6.map (·.block) = some b → n ≤ b := fun b hb => by have := (hrow6.blk_lt b hb).1; have := HXB.out; omega
           have hR7 := HRI.out _ A6 c6 h7 hA6
           have htm7 : TM badR w2 (w6.setCell ⟨g2, 1, none⟩ (.slice A6 ys6.length c6)) := (TM.below hb6).setCell (p := ⟨g2, 1, none⟩) (fun o ho => by rw [show w6.heap[g2]? = _ from h6.blk] at ho; injection ho with ho; subst ho; exact .inl rfl) _
           have hP7 := hp.tm htm7
           have hD7 : OB (w6.setCell ⟨g2, 1, none⟩ (.slice A6 ys6.length c6)) 0 D c d' := (ho.below hb6).setCell_ne (p := ⟨g2, 1, none⟩) ((ho.below hb6).ne_var h6.blk (by decide)) _
           have hE6 := (HDAT.out w6 h6).2.2.2
           have hE7 := hE6.setCell_ne (p := ⟨g2, 1, none⟩) (hE6.ne_var h6.blk (by decide)) (.slice A6 ys6.length c6)
           have hX7 := ((hX3.kept ((Below.refl _ _).alloc (Nat.le_refl _) (.cells #[] 68))).grown hg5 (fun e => by simp at e; omega)).grown hg6 (fun e => by have := (hrow5.blk_lt _ e).1; omega)
           have hX8 := hX7.setCell_other (a := ⟨g2, 1, none⟩) (.slice A6 ys6.length c6) (by have := h2.blk.lt; simp; omega)
           have hB7 := (hB2.trans (hb6.mono hn2)).setCell (p := ⟨g2, 1, none⟩) (by simpa using HFR.out.1) (.slice A6 ys6.length c6)
           have HF := fun r => Lib.hid (AnyE.of (r := r) hP7 hR7 hB7)
           have hc1 : (convert 33 9 (.slice D d'.length c)).run Try.prog (w6.setCell ⟨g2, 1, none⟩ (.slice A6 ys6.length c6)) = .ok (.string ⟨d'.toArray⟩) (w6.setCell ⟨g2, 1, none⟩ (.slice A6 ys6.length c6)) := convB c hD7.rb
           have hc2 : (convert 33 9 (.slice DA da.length dc)).run Try.prog (w6.setCell ⟨g2, 1, none⟩ (.slice A6 ys6.length c6)) = .ok (.string ⟨da.toArray⟩) (w6.setCell ⟨g2, 1, none⟩ (.slice A6 ys6.length c6)) := convB dc hE7.rb
           have x0 := hX8.cell 0 rfl
           have x1 := hX8.cell 1 rfl
           have x2 := hX8.cell 2 rfl
           rw [HXB.out] at x0 x1 x2
           clear hy6 hy61 hy62 hrow6 hg6 hb6 h6 hrow6' h7 hA6 hR7 htm7 hP7 hD7 hE6 hE7 hX7 hX8 hB7 hd6 hy5 hyl h5 hb5 hrow5 hg5 hX3 ho hp))
      go_ret
      exact (HF _).out
    · obtain rfl : cap = j + 1 := by omega
      go_wp2_with (first
        | (at_builtin; refine wp_appendS _ rfl (.tmp 66) (.tmp 72) 42 68 rfl Try.underlying42 hi0 hz0 hz1 hz2 rfl (by decide) (xb + 1) _ (some ⟨bb, 0, none⟩) 0 (j + 1) [] ((R.map Ltr.cells).take j) rfl (by rw [List.length_take, List.length_map, Nat.min_eq_left (by omega)]; rfl) hO4 (h4.row.rs.take j) (fun r hr => Ltr.cells_len r (List.mem_of_mem_take hr)) (fun r hr => Ltr.cells_one r (List.mem_of_mem_take hr)) (by simp; omega) (by simp; omega) hs4 ?_
           intro ys5 A5 c5 w5 hy5 hy51 hy52 hrow5 hg5 _
           have hb5 : Below w2.heap.size w2 w5 := hb4.grown hg5 hb4.size (fun b hb => by simp at hb; omega)
           have h5 := h2.below hb5
           have c1 := h5.blk.cell 1 rfl
           simp only [List.length_nil, Nat.zero_add, List.length_take, List.length_map] at hy51 hy52)
        | (at_builtin; refine wp_appendS w5 rfl (.tmp 75) (.tmp 82) 42 68 rfl Try.underlying42 hi0 hz0 hz1 hz2 rfl (by decide) (xb + 1) A5 (some ⟨bb, 0, none⟩) c5 0 ys5 ((R.map Ltr.cells).drop (j + 1)) rfl (by rw [List.drop_of_length_le (by rw [List.length_map]; omega)]; rfl) hrow5 (by rw [List.drop_of_length_le (by rw [List.length_map]; omega)]; exact RS.nil) (fun r hr => Ltr.cells_len r (List.mem_of_mem_drop hr)) (fun r hr => Ltr.cells_one r (List.mem_of_mem_drop hr)) (by simp; omega) (by simp; omega) (Nat.le_trans hs4 hg5.size) ?_
           intro ys6 A6 c6 w6 hy6 hy61 hy62 hrow6 hg6 _
           have hb6 : Below w2.heap.size w2 w6 := hb5.grown hg6 hb5.size (fun b hb => by have := (hrow5.blk_lt b hb).1; omega)
           clear c1
           have h6 := h2.below hb6
           have c1 := h6.blk.cell 1 rfl
           have f1 := h6.blk.free 1
           have hd6 : ys6 = (R.eraseIdx j).map Ltr.cells := by
             have e5 := hy5.out
             rw [List.nil_append] at e5
             rw [hy6.out, e5, ← eraseIdx_map', List.eraseIdx_eq_take_drop_succ]
           have hrow6' := hrow6.mono (Nat.zero_le _)
           have hyl : ys6.length = (R.eraseIdx j).length := by rw [hd6, List.length_map]
           rw [hd6] at hrow6'
           have h7 := h6.setList hrow6' (fun r hr => h6.data r (mem_erase hr)) (by rw [HEL.out]; omega) ys6.length hyl
           have hA6 : ∀ b, A6.map (·.block) = some b → n ≤ b := fun b hb => by have := (hrow6.blk_lt b hb).1; have := HXB.out; omega
           have hR7 := HRI.out _ A6 c6 h7 hA6
           have htm7 : TM badR w2 (w6.setCell ⟨g2, 1, none⟩ (.slice A6 ys6.length c6)) := (TM.below hb6).setCell (p := ⟨g2, 1, none⟩) (fun o ho => by rw [show w6.heap[g2]? = _ from h6.blk] at ho; injection ho with ho; subst ho; exact .inl rfl) _
           have hP7 := hp.tm htm7
           have hD7 : OB (w6.setCell ⟨g2, 1, none⟩ (.slice A6 ys6.length c6)) 0 D c d' := (ho.below hb6).setCell_ne (p := ⟨g2, 1, none⟩) ((ho.below hb6).ne_var h6.blk (by decide)) _
           have hE6 := (HDAT.out w6 h6).2.2.2
           have hE7 := hE6.setCell_ne (p := ⟨g2, 1, none⟩) (hE6.ne_var h6.blk (by decide)) (.slice A6 ys6.length c6)
           have hX7 := ((hX3.kept ((Below.refl _ _).alloc (Nat.le_refl _) (.cells #[] 68))).grown hg5 (fun e => by simp at e; omega)).grown hg6 (fun e => by have := (hrow5.blk_lt _ e).1; omega)
           have hX8 := hX7.setCell_other (a := ⟨g2, 1, none⟩) (.slice A6 ys6.length c6) (by have := h2.blk.lt; simp; omega)
           have hB7 := (hB2.trans (hb6.mono hn2)).setCell (p := ⟨g2, 1, none⟩) (by simpa using HFR.out.1) (.slice A6 ys6.length c6)
           have HF := fun r => Lib.hid (AnyE.of (r := r) hP7 hR7 hB7)
           have hc1 : (convert 33 9 (.slice D d'.length c)).run Try.prog (w6.setCell ⟨g2, 1, none⟩ (.slice A6 ys6.length c6)) = .ok (.string ⟨d'.toArray⟩) (w6.setCell ⟨g2, 1, none⟩ (.slice A6 ys6.length c6)) := convB c hD7.rb
           have hc2 : (convert 33 9 (.slice DA da.length dc)).run Try.prog (w6.setCell ⟨g2, 1, none⟩ (.slice A6 ys6.length c6)) = .ok (.string ⟨da.toArray⟩) (w6.setCell ⟨g2, 1, none⟩ (.slice A6 ys6.length c6)) := convB dc hE7.rb
           have x0 := hX8.cell 0 rfl
           have x1 := hX8.cell 1 rfl
           have x2 := hX8.cell 2 rfl
           rw [HXB.out] at x0 x1 x2
           clear hy6 hy61 hy62 hrow6 hg6 hb6 h6 hrow6' h7 hA6 hR7 htm7 hP7 hD7 hE6 hE7 hX7 hX8 hB7 hd6 hy5 hyl h5 hb5 hrow5 hg5 hX3 ho hp))
      go_ret
      exact (HF _).out

theorem lookG (i : Int) (h : PI n w g V C room) (k : RI n w g2 V2 C2 room2 N) (hn : n ≤ w.heap.size) (hi : I64 i) : Calls Try.prog 29 #[.pointer (some ⟨g, 0, none⟩), .pointer (some ⟨g2, 0, none⟩), .int .i64 i, .bool false] w (AnyE n g g2 room room2 N w) := by
  by_cases hr : i < 0 ∨ (V2.length : Int) ≤ i
  · exact lookG_out i h k hn hi hr
  · exact lookG_in i h k hn hi (by omega)
theorem takeG (i : Int) (h : PI n w g V C room) (k : RI n w g2 V2 C2 room2 N) (hn : n ≤ w.heap.size) (hi : I64 i) : Calls Try.prog 29 #[.pointer (some ⟨g, 0, none⟩), .pointer (some ⟨g2, 0, none⟩), .int .i64 i, .bool true] w (AnyE n g g2 room room2 N w) := by
  by_cases hr : i < 0 ∨ (V2.length : Int) ≤ i
  · exact takeG_out i h k hn hi hr
  · exact takeG_in i h k hn hi (by omega)
end
end Go.Proofs.Ytihmnkkhccihpaa
