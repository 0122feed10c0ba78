/- Contract of the reference's disk: Change. -/
import Derived.Test.YthdmnajcphaekaaDoorRefG
namespace Go.Proofs.YthdmnajcphaekaaDoor
open Go.RowKit

section
variable {M S : Nat → Prop} {w : World} {g : Nat} {A B : Option Addr} {c cu : Nat} {L : List FRow} {U : List (Wr × Option Addr × Nat)} {D : DSt}
theorem RR.same {w' : World} (h : RR M S w g A c L B cu U D) (hb : Below w.heap.size w w') (v : Value) : RDone M S w g D v (.returned v) w' :=
  ⟨rfl, ⟨M, S, ⟨A, c, L, B, cu, U, h.below hb⟩, fun b hb => .inl hb, fun b hb => .inl hb⟩, .of_below hb⟩
set_option maxRecDepth 20000 in
set_option maxHeartbeats 4000000 in
theorem refChange_bad (kind : Int) (name : Nm) (off : Int) (data : List UInt8) (Y : Option Addr) (cy : Nat) (h : RR M S w g A c L B cu U D) (hd : D.down = false) (hs : name.length ≤ 9223372036854775807) (ho : -9223372036854775808 ≤ off ∧ off ≤ 9223372036854775807) (hb : nameOk name = false ∨ off < 0 ∨ 4194304 < off) :
    Calls Tryd.prog 43 #[.pointer (some ⟨g, 0, none⟩), .agg #[.int .i64 kind, .string ⟨name.toArray⟩, .int .i64 off, .slice Y data.length cy]] w (RDone M S w g D (.int .i64 1)) := by
  have hal : Below w.heap.size w (w.alloc (.cells #[.int .i64 kind, .string ⟨name.toArray⟩, .int .i64 off, .slice Y data.length cy] 73)) := (Below.refl _ _).alloc (Nat.le_refl _) _
  have hx := Blk.new w #[.int .i64 kind, .string ⟨name.toArray⟩, .int .i64 off, .slice Y data.length cy] 73
  have c4 := (h.blk.kept hal).cell 4 rfl
  rw [hd] at c4
  have NM := Lib.hid (refNamed ⟨name.toArray⟩ (w.alloc (.cells #[.int .i64 kind, .string ⟨name.toArray⟩, .int .i64 off, .slice Y data.length cy] 73)) (by simpa [ByteArray.size] using hs))
  have y1 := hx.cell 1 rfl
  have y2 := hx.cell 2 rfl
  have HF := Lib.hid (h.same hal (.int .i64 1))
  obtain ⟨o1, o2⟩ := ho
  clear h hx hal hd
  rcases Bool.eq_false_or_eq_true (nameOk name) with hn | hn
  · have hb' : off < 0 ∨ 4194304 < off := by rcases hb with h | h; rw [hn] at h; cases h; exact h
    rw [show nameOk (⟨name.toArray⟩ : ByteArray).data.toList = true from hn] at NM
    clear hb hn
    rcases hb' with h0 | h0
    all_goals
      go_enter Tryd.func43, Tryd.ntmps43
      go_wp2_with fail
      refine NM.out.mono ?_
      rintro e w2 ⟨rfl, rfl⟩
      go_wp2_with fail
      go_ret
      exact HF.out
  · rw [show nameOk (⟨name.toArray⟩ : ByteArray).data.toList = false from hn] at NM
    clear hb hn
    go_enter Tryd.func43, Tryd.ntmps43
    go_wp2_with fail
    refine NM.out.mono ?_
    rintro e w2 ⟨rfl, rfl⟩
    go_wp2_with fail
    go_ret
    exact HF.out
set_option maxRecDepth 20000 in
set_option maxHeartbeats 4000000 in
theorem refChange_down (v : Array Value) (h : RR M S w g A c L B cu U D) (hd : D.down = true) :
    Calls Tryd.prog 43 #[.pointer (some ⟨g, 0, none⟩), .agg v] w (RDone M S w g D (.int .i64 11)) := by
  have hal : Below w.heap.size w (w.alloc (.cells v 73)) := (Below.refl _ _).alloc (Nat.le_refl _) _
  have c4 := (h.blk.kept hal).cell 4 rfl
  rw [hd] at c4
  have HF := Lib.hid (h.same hal (.int .i64 11))
  clear h hal hd
  go_enter Tryd.func43, Tryd.ntmps43
  go_wp2_with fail
  go_ret
  exact HF.out


set_option maxRecDepth 20000 in
set_option maxHeartbeats 40000000 in
theorem refChange_good (kind : Int) (name : Nm) (off : Nat) (data : List UInt8) (Y : Option Addr) (cy : Nat) (h : RR M S w g A c L B cu U D) (hY : RB w Y data) (hYM : 0 < data.length → ∀ b, Y.map (·.block) = some b → ¬ M b) (hcnt : D.cnt ≤ 1000000) (hd : D.down = false) (hs : name.length ≤ 9223372036854775807) (ho : off ≤ 4194304) (hdl : data.length ≤ 140737488355328) (hk : kind = 1 ∨ kind = 2 ∨ kind = 3) (hdat : kind ≠ 1 → data = []) (hn : nameOk name = true) :
    Calls Tryd.prog 43 #[.pointer (some ⟨g, 0, none⟩), .agg #[.int .i64 kind, .string ⟨name.toArray⟩, .int .i64 (off : Int), .slice Y data.length cy]] w (RDone M S w g (changeD D ⟨kind, name, off, data⟩ off).2 (.int .i64 (changeD D ⟨kind, name, off, data⟩ off).1)) := by
  have hal : Below w.heap.size w (w.alloc (.cells #[.int .i64 kind, .string ⟨name.toArray⟩, .int .i64 (off : Int), .slice Y data.length cy] 73)) := (Below.refl _ _).alloc (Nat.le_refl _) _
  have hx := Blk.new w #[.int .i64 kind, .string ⟨name.toArray⟩, .int .i64 (off : Int), .slice Y data.length cy] 73
  have h1 := h.below hal
  have c4 := h1.blk.cell 4 rfl
  rw [hd] at c4
  have NM := Lib.hid (refNamed ⟨name.toArray⟩ (w.alloc (.cells #[.int .i64 kind, .string ⟨name.toArray⟩, .int .i64 (off : Int), .slice Y data.length cy] 73)) (by simpa [ByteArray.size] using hs))
  rw [show nameOk (⟨name.toArray⟩ : ByteArray).data.toList = true from hn] at NM
  have y1 := hx.cell 1 rfl
  have y2 := hx.cell 2 rfl
  have FL := Lib.hid (refFiles h1 hcnt)
  have hris : Rising D.files := rising_foldl h.ris
  have HRIS := Lib.hid hris
  have hfl : D.files.length ≤ 1000000 := Nat.le_trans (DSt.files_len D) hcnt
  have HFS := Lib.hid (fget_isSome hris name)
  have HSZ := Lib.hid (fsize_do D.files hris ⟨kind, name, off, data⟩ hk)
  have HSM := Lib.hid h.ok.files
  have hfs : fsize D.files ≤ 4611686018427387904 := Nat.le_trans (DSt.size_le h.ok hris hcnt) (by decide)
  have hroom := h.ok.1
  have HR := Lib.hid h
  have hdo : fsize (doF D.files ⟨kind, name, off, data⟩) ≤ 4611686018427387904 := DSt.do_le h.ok hris hcnt hk ho hdl
  have HREST : Hid (¬ (fget D.files name = none ∧ kind ≠ 3 ∧ 4096 ≤ D.files.length) → (fsize D.files < fsize (doF D.files ⟨kind, name, off, data⟩) ∧ D.room < (fsize (doF D.files ⟨kind, name, off, data⟩) : Int) → changeD D ⟨kind, name, off, data⟩ off = (10, D)) ∧
      (¬ (fsize D.files < fsize (doF D.files ⟨kind, name, off, data⟩) ∧ D.room < (fsize (doF D.files ⟨kind, name, off, data⟩) : Int)) → Wr.ok ⟨kind, name, off, data⟩ ∧ changeD D ⟨kind, name, off, data⟩ off = if (burnD D).down = true then (11, burnD D) else (0, { burnD D with unsure := D.unsure ++ [⟨kind, name, off, data⟩] }))) := Lib.hid fun hm => by
    have e1 := HSZ.out
    have e2 := refuse_rest (c := ⟨kind, name, off, data⟩) (off := (off : Int)) hd hn (by omega) (by omega) hm
    simp only at e1 e2
    constructor
    · intro hf
      rw [if_pos (by omega)] at e2
      exact changeD_err _ _ _ e2 (by decide)
    · intro hf
      rw [if_neg (by omega)] at e2
      refine ⟨okW hk ho hdat (by exact hroom.2) HSM.out (by simp only; omega), ?_⟩
      split
      · rename_i hb; exact changeD_burnt _ _ _ e2 hb
      · rename_i hb; exact changeD_eq0 _ _ _ e2 (by simpa using hb)
  have HMANY : Hid ((fget D.files name = none ∧ kind ≠ 3 ∧ 4096 ≤ D.files.length) → changeD D ⟨kind, name, off, data⟩ off = (7, D)) := Lib.hid fun hm =>
    changeD_err _ _ _ (refuse_many (c := ⟨kind, name, off, data⟩) (off := (off : Int)) hd hn (by omega) (by omega) hm) (by decide)
  have HDB := Lib.hid (refBurns (w := w) h hd)
  have HBNDW := Lib.hid h.bnd
  have HOK := Lib.hid h.ok
  have HKK := Lib.hid hk
  have hmg := h.mg
  obtain ⟨xb, hxb⟩ : ∃ xb, xb = w.heap.size := ⟨_, rfl⟩
  have HX := Lib.hid hx
  rw [← hxb] at HX
  have HXB := Lib.hid hxb
  have HYY := Lib.hid hY
  have HYM := Lib.hid hYM
  have HD := Lib.hid hd
  clear h hx h1 hris HSZ HSM hdat hn hd hY hYM hk HDB hxb y2
  have HCDD : ∃ cD, cD = changeD D ⟨kind, name, off, data⟩ off := ⟨_, rfl⟩
  obtain ⟨cD, hcD⟩ := HCDD
  rw [← hcD] at HREST HMANY ⊢
  go_enter Tryd.func43, Tryd.ntmps43
  go_wp2_with fail
  refine NM.out.mono ?_
  rintro e w1 ⟨rfl, rfl⟩
  rw [← HXB.out]
  generalize w.alloc (.cells #[.int .i64 kind, .string ⟨name.toArray⟩, .int .i64 (off : Int), .slice Y data.length cy] 73) = w1 at *
  have y1' := HX.out.cell 1 rfl
  have y2 := HX.out.cell 2 rfl
  clear y1
  go_wp2_with fail
  refine FL.out.mono ?_
  rintro e w2 ⟨A2, c2, L2, rfl, hv2, hO2, hb2⟩
  have HL2 : Hid (L2.length = D.files.length) := Lib.hid (by have := congrArg List.length hv2.out; rw [List.length_map] at this; exact this)
  have hl2 : L2.length ≤ 1000000 := by rw [HL2.out]; exact hfl
  have FD := Lib.hid (refFind A2 c2 L2 name w2 hO2.rd (by omega))
  rw [hv2.out] at FD
  have hx2 := HX.out.kept hb2
  have HO2 := Lib.hid hO2
  clear c4 FL hO2 y1' y2 NM
  have y1 := hx2.cell 1 rfl
  go_wp2_with fail
  refine FD.out.mono ?_
  rintro e w3 ⟨rfl, hb3⟩
  have HO3 := Lib.hid (HO2.out.below hb3)
  have hx3 := hx2.kept hb3
  have hB3 := hal.trans (((hb2.trans (hb3.mono hb2.size))).mono hal.size)
  have hB13 := hb2.trans (hb3.mono hb2.size)
  clear HO2 hb2 hb3 FD y1 hx2
  have y0 := hx3.cell 0 rfl
  have y1 := hx3.cell 1 rfl
  have y2 := hx3.cell 2 rfl
  have y3 := hx3.cell 3 rfl
  have HDO := Lib.hid (refDo A2 c2 L2 w3 ⟨kind, name, off, data⟩ Y cy HO3.out.rd (HYY.out.below hB3) (by rw [hv2.out]; exact HRIS.out) (by omega) (newF_small (w := w3) hv2.out HOK.out.files HRIS.out) ho hdl HKK.out)
  unfold wrV at HDO
  rw [hv2.out] at HDO
  have HSB := Lib.hid (refSize A2 c2 L2)
  have HDLEN : Hid ((doF D.files ⟨kind, name, off, data⟩).length ≤ 1000001) := Lib.hid (by have := doF_len D.files ⟨kind, name, off, data⟩; omega)
  have HB3 := Lib.hid hB3
  generalize hdf : doF D.files ⟨kind, name, off, data⟩ = F2 at *
  obtain ⟨sA, hsA⟩ : ∃ sA, sA = fsize F2 := ⟨_, rfl⟩
  obtain ⟨sB, hsB⟩ : ∃ sB, sB = fsize D.files := ⟨_, rfl⟩
  rw [← hsA] at HREST hdo
  rw [← hsB] at HREST hfs
  have HSA := Lib.hid hsA
  have HSBE := Lib.hid hsB
  have HCD := Lib.hid hcD
  clear hsA hsB hB3 hdf hB13 hcD
  cases hat : fat D.files name
  case true =>
    have HREST2 := HREST.out (fun h => by have := HFS.out; rw [hat, h.1] at this; cases this)
    clear HREST HMANY hat HFS
    go_wp2_with fail
    with_reducible refine HDO.out.mono ?_
    rintro e w4 ⟨A4, c4, L4, rfl, hv4, hO4, hb4⟩
    have hl4 : L4.length ≤ 1000001 := by have := congrArg List.length hv4.out; rw [List.length_map] at this; rw [this]; exact HDLEN.out
    have SZ := Lib.hid (refSize A4 c4 L4 w4 hO4.rd (by omega) (by rw [hv4.out, ← HSA.out]; exact hdo))
    rw [hv4.out, ← HSA.out] at SZ
    have HO4 := Lib.hid (HO3.out.below hb4)
    have hB4 := HB3.out.trans (hb4.mono HB3.out.size)
    have hx4 := hx3.kept hb4
    clear hO4 hb4 HO3 HDO y0 y1 y2 y3 hv4 HDLEN hx3 HB3
    go_wp2_with fail
    refine SZ.out.mono ?_
    rintro e w5 ⟨rfl, hb5⟩
    have SB := Lib.hid (HSB.out w5 (HO4.out.below hb5).rd (by omega) (by rw [hv2.out, ← HSBE.out]; exact hfs))
    rw [hv2.out, ← HSBE.out] at SB
    have hB5 := hB4.trans (hb5.mono hB4.size)
    have hx5 := hx4.kept hb5
    clear HO4 hb5 SZ HSB hB4 hx4
    go_wp2_with fail
    refine SB.out.mono ?_
    rintro e w6 ⟨rfl, hb6⟩
    have hB6 := hB5.trans (hb6.mono hB5.size)
    have hx6 := hx5.kept hb6
    have HR6 := Lib.hid (HR.out.below hB6)
    have c2' := HR6.out.blk.cell 2 rfl
    clear hb6 SB hB5 hx5
    obtain ⟨hfull, hgood⟩ := HREST2
    have HFULL := Lib.hid hfull
    have HGOOD := Lib.hid hgood
    clear hfull hgood
    obtain ⟨hroom0, hroom1⟩ := hroom
    generalize hrm : D.room = room at *
    by_cases hg1 : sB < sA
    · by_cases hg2 : room < (sA : Int)
      · have HF : Hid (RDone M S w g cD.2 (.int .i64 cD.1) (.returned (.int .i64 10)) w6) := Lib.hid (by rw [HFULL.out ⟨hg1, hg2⟩]; exact HR.out.same hB6 (.int .i64 10))
        clear HR HFULL HGOOD HR6 hx6 hB6
        go_wp2_with fail
        go_ret
        exact HF.out
      · have HG := Lib.hid (HGOOD.out (fun h => hg2 h.2))
        clear HFULL HGOOD
        have BN := Lib.hid (refBurns HR6.out HD.out)
        go_wp2_with fail
        refine BN.out.mono ?_
        rintro e w7 ⟨rfl, h7, hm7⟩
        have hx7 : Blk w7 xb 73 #[.int .i64 kind, .string ⟨name.toArray⟩, .int .i64 (off : Int), .slice Y data.length cy] := hx6.mods hm7 (by rintro rfl; exact (h7.blk.lt |> fun _ => cells_ne HR6.out.blk hx6 (by decide)) rfl)
        have HM7 : Hid (Mods M w w7) := Lib.hid ((Mods.of_below hB6).then (hm7.mono fun b _ hb => by subst hb; exact hmg))
        have hxl : w.heap.size ≤ xb := by rw [HXB.out]; exact Nat.le_refl _
        have H7 := Lib.hid h7
        obtain ⟨hcok, hG⟩ := HG.out
        cases hbd : (burnD D).down
        · rw [hbd, if_neg (by simp)] at hG
          have HG2 := Lib.hid hG
          have HY7 := Lib.hid ((HYY.out.below hB6).mods hm7 (fun h0 b hb e => by subst e; exact HYM.out h0 _ hb hmg))
          clear h7 hm7 hG BN HR6 HG hx6 hB6
          have z3 := hx7.cell 3 rfl
          have q3 := hx7.free 3
          have hba : Below w7.heap.size w7 (w7.alloc (.cells #[] 5)) := (Below.refl _ _).alloc (Nat.le_refl _) _
          have HOE := Lib.hid (OB.made0 w7 (Nat.le_refl w7.heap.size))
          have HYa := Lib.hid (HY7.out.below hba)
          have hxa := hx7.kept hba
          have HRa := Lib.hid (H7.out.below hba)
          have HMa := Lib.hid (HM7.out.below hba)
          have HXLT := Lib.hid hx7.lt
          have z3a := hxa.cell 3 rfl
          have hbal : w7.heap.size ≤ (w7.alloc (.cells #[] 5)).heap.size := hba.size
          have hglt := H7.out.blk.lt
          have HBD := Lib.hid hbd
          clear hbd hba HY7 hx7
          go_wp2_with (at_builtin; refine wp_appendB _ rfl (.tmp 66) (.tmp 68) rfl w7.heap.size (some ⟨w7.heap.size, 0, none⟩) Y 0 cy [] data rfl rfl HOE.out HYa.out (by simp; omega) hbal ?_; intro d8 A8 c8 w8 hd8 hd81 hd82 ho8 hg8; have hx8 := hxa.grown hg8 (fun e => by injection e with e; have := HXLT.out; simp at e; omega); have z8 := hx8.cell 3 rfl; have q8 := hx8.free 3)
          have HE8 : Hid (d8 = data) := Lib.hid (by simpa using hd8.out)
          have hb8 : Below w7.heap.size w7 w8 := ((Below.refl w7.heap.size w7).alloc (Nat.le_refl _) _).grown hg8 (by simp) (fun b hb => by injection hb with hb; simp at hb; omega)
          have hx9 : Blk (w8.setCell ⟨xb, 3, none⟩ (.slice A8 d8.length c8)) xb 73 #[.int .i64 kind, .string ⟨name.toArray⟩, .int .i64 (off : Int), .slice A8 d8.length c8] := hx8.setCell 3 _
          have hm9 : Mods (fun b => b = xb) w7 (w8.setCell ⟨xb, 3, none⟩ (.slice A8 d8.length c8)) := Mods.setCell (S := fun b => b = xb) (Mods.of_below hb8) ⟨xb, 3, none⟩ (.inl rfl) _
          have HBND := Lib.hid H7.out.bnd
          have HXN : Hid (∀ b, M b ∨ S b → b ≠ xb) := Lib.hid fun b hb e => by have := HBNDW.out b hb; have := HXB.out; omega
          have HR9 := Lib.hid (H7.out.mods hm9 (fun b _ hb => HXN.out b hb))
          have HM9 : Hid (Mods M w (w8.setCell ⟨xb, 3, none⟩ (.slice A8 d8.length c8))) := Lib.hid ((HM7.out.below hb8).setCell _ (.inr (by rw [HXB.out]; exact Nat.le_refl _)) _)
          have HO9 := Lib.hid (ho8.of_block (w' := w8.setCell ⟨xb, 3, none⟩ (.slice A8 d8.length c8)) (fun b hb => Below.heap_setCell _ _ _ b (by rintro rfl; exact ho8.ne_var hx8 (by decide) hb)))
          have HAB : Hid (∀ b, A8.map (·.block) = some b → w7.heap.size ≤ b ∧ b < w8.heap.size) := Lib.hid ho8.blk_lt
          have HWS : Hid (w.heap.size ≤ w7.heap.size) := Lib.hid HM7.out.size
          have HW78 : Hid (w7.heap.size ≤ w8.heap.size) := Lib.hid hb8.size
          have HSZ9 : Hid ((w8.setCell ⟨xb, 3, none⟩ (.slice A8 d8.length c8)).heap.size = w8.heap.size) := Lib.hid (by simp)
          have hdl8 : d8.length ≤ 140737488355328 := by simp at hd81; omega
          clear hd8 hd81 hd82 ho8 hg8 hx8 z8 q8 hxa z3 q3 z3a HOE HYa HRa HMa HXLT hbal hb8 hm9 HM7 H7
          generalize w8.setCell ⟨xb, 3, none⟩ (.slice A8 d8.length c8) = w9 at *
          refine wp_region_planE_gen (by kernel_rfl) [(0, none), (1, none), (2, none), (3, none), (4, none), (5, none), (6, some [5]), (7, some [4]), (8, none), (9, none), (10, some [0, 1, 2, 3, 4, 5, 9])] (by kernel_rfl) (by kernel_rfl) (by decide) ?_
          intro wq hwq
          have hbq : Below w9.heap.size w9 wq := by rw [hwq]; exact (Below.refl _ _).drew
          have HRq := Lib.hid (HR9.out.below hbq)
          have HMq := Lib.hid (HM9.out.below hbq)
          have HOq := Lib.hid (HO9.out.below hbq)
          have hsq : w8.heap.size ≤ wq.heap.size := by rw [← HSZ9.out]; exact hbq.size
          have hxq := hx9.kept hbq
          have y0 := hxq.cell 0 rfl
          have y1 := hxq.cell 1 rfl
          have y2 := hxq.cell 2 rfl
          have y3 := hxq.cell 3 rfl
          have c1 := HRq.out.blk.cell 1 rfl
          clear hwq hbq HR9 HM9 HO9 hx9
          iterate 4 (refine planE_pure (v := ?_) rfl (by rfl) (fun w' => ?_) ?_; rotate_left; (focus (simp only [List.getElem_toArray, List.getElem_cons_succ, List.getElem_cons_zero]; go_simp; first | with_reducible rfl | (simp (disch := omega) only [if_pos, if_neg, dif_pos, Result.andThen_ok]; try with_reducible rfl) | skip)); try simp only [List.getElem_toArray, List.getElem_cons_succ, List.getElem_cons_zero, Act.put, List.setIfInBounds_toArray, List.set_cons_zero, List.set_cons_succ])
          refine planE_cells (v := ?_) [(⟨g, 1, none⟩, .slice B U.length cu)] (by simp; and_intros <;> assumption) rfl (by rfl) (fun w' hw' => ?_) ?_; rotate_left; (focus (simp only [List.forall_mem_cons, List.not_mem_nil, false_imp_iff, implies_true, and_true] at hw'; simp only [List.getElem_toArray, List.getElem_cons_succ, List.getElem_cons_zero]; go_simp; first | with_reducible rfl | (simp (disch := omega) only [if_pos, if_neg, dif_pos, Result.andThen_ok]; try with_reducible rfl) | skip)); try simp only [List.getElem_toArray, List.getElem_cons_succ, List.getElem_cons_zero, Act.put, List.setIfInBounds_toArray, List.set_cons_zero, List.set_cons_succ]
          refine planE_cells (v := ?_) [(⟨xb, 0, none⟩, .int .i64 kind), (⟨xb, 1, none⟩, .string ⟨name.toArray⟩), (⟨xb, 2, none⟩, .int .i64 (off : Int)), (⟨xb, 3, none⟩, .slice A8 d8.length c8)] (by simp; and_intros <;> assumption) rfl (by rfl) (fun w' hw' => ?_) ?_; rotate_left; (focus (simp only [List.forall_mem_cons, List.not_mem_nil, false_imp_iff, implies_true, and_true] at hw'; simp only [List.getElem_toArray, List.getElem_cons_succ, List.getElem_cons_zero]; go_simp; first | with_reducible rfl | (simp (disch := omega) only [if_pos, if_neg, dif_pos, Result.andThen_ok]; try with_reducible rfl) | skip)); try simp only [List.getElem_toArray, List.getElem_cons_succ, List.getElem_cons_zero, Act.put, List.setIfInBounds_toArray, List.set_cons_zero, List.set_cons_succ]
          refine planE_eff rfl (by rfl) (fun K hK => ?_)
          go_simp
          have hb2 : Below wq.heap.size wq (wq.alloc (.cells #[.int .i64 kind, .string ⟨name.toArray⟩, .int .i64 (off : Int), .slice A8 d8.length c8] 73)) := (Below.refl _ _).alloc (Nat.le_refl _) _
          have hL6 := Blk.new wq #[.int .i64 kind, .string ⟨name.toArray⟩, .int .i64 (off : Int), .slice A8 d8.length c8] 73
          have HR6 := Lib.hid (HRq.out.below hb2)
          have HM6 := Lib.hid (HMq.out.below hb2)
          have HO6 := Lib.hid (HOq.out.below hb2)
          have hs6 : w8.heap.size ≤ (wq.alloc (.cells #[.int .i64 kind, .string ⟨name.toArray⟩, .int .i64 (off : Int), .slice A8 d8.length c8] 73)).heap.size := Nat.le_trans hsq hb2.size
          have hw8 : w7.heap.size ≤ w8.heap.size := HW78.out
          have hxs := hxq.kept hb2
          obtain ⟨lb, hlb⟩ : ∃ lb, lb = wq.heap.size := ⟨_, rfl⟩
          rw [← hlb] at hL6 ⊢
          generalize wq.alloc (.cells #[.int .i64 kind, .string ⟨name.toArray⟩, .int .i64 (off : Int), .slice A8 d8.length c8] 73) = w10 at *
          clear y0 y1 y2 y3 c1 hb2 hlb HRq HMq HOq hxq hsq
          have y0 := hxs.cell 0 rfl
          have y1 := hxs.cell 1 rfl
          have y2 := hxs.cell 2 rfl
          have y3 := hxs.cell 3 rfl
          have c1 := HR6.out.blk.cell 1 rfl
          refine hK _ _ (by simp [owed, left] <;> (and_intros <;> first | trivial | assumption)) ?_
          clear hK K
          try simp only [List.getElem_toArray, List.getElem_cons_succ, List.getElem_cons_zero, Act.put, List.setIfInBounds_toArray, List.set_cons_zero, List.set_cons_succ]
          refine planE_eff rfl (by rfl) (fun K hK => ?_)
          obtain ⟨i0, hi0, hz0, hz1, hz2⟩ := info_parts write_info
          have hul : U.length ≤ 1000000 := by have := HR6.out.lens.2; rw [burnD_unsure] at this; unfold DSt.cnt at hcnt; omega
          refine op_appendS w10 (.tmp 75) (.tmp 77) 40 73 (by rfl) Tryd.underlying40 hi0 hz0 hz1 hz2 rfl (by decide) 0 B (some ⟨lb, 0, none⟩) cu 1 (U.map wrRow) [[.int .i64 kind, .string ⟨name.toArray⟩, .int .i64 (off : Int), .slice A8 d8.length c8]] (by simp; rfl) (by rfl) HR6.out.uns.row (RS.lit hL6) (by simp) (by simp [Value.oneCell']) (by simp; omega) (by simp; omega) (Nat.zero_le _) ?_
          intro ys B' cu' w11 hys hy1 hy2 hrow hg11 hB'
          have hm11 : Mods M w10 w11 := .of_grown hg11 fun k hk => HR6.out.uns.own k hk
          have HM11 := Lib.hid (HM6.out.then hm11)
          have hk11 := HR6.out.blk.grown hg11 (HR6.out.uns.row.ne_var HR6.out.blk (by decide))
          have HO11 := Lib.hid (HO6.out.grown_row hg11 (HO6.out.ne_row HR6.out.uns.row (by decide)))
          have HS11 : Hid (∀ b, S b → w11.heap[b]? = w10.heap[b]?) := Lib.hid fun b hb => hg11.block b (HR6.out.bnd b (.inr hb)) (fun e => HR6.out.dis b hb (HR6.out.uns.own b e.symm))
          have hs11 := hg11.size
          have hys' := hys.out
          have HYS : Hid (ys = (U ++ [((⟨kind, name, off, data⟩, A8, c8) : Wr × Option Addr × Nat)]).map wrRow) := Lib.hid (by rw [hys', HE8.out, List.map_append]; rfl)
          have HYL : Hid (ys.length = (U ++ [((⟨kind, name, off, data⟩, A8, c8) : Wr × Option Addr × Nat)]).length) := Lib.hid (by rw [HYS.out, List.length_map])
          have HRW := Lib.hid hrow
          have HBB := Lib.hid hB'
          clear y0 y1 y2 y3 c1 hL6 hys hys' hy1 hy2 hrow hg11 hB' hm11 hxs
          have c1 := hk11.cell 1 rfl
          have f1 := hk11.free 1
          refine hK _ _ (by simp [owed, left] <;> (and_intros <;> first | trivial | assumption)) ?_
          clear hK K
          try simp only [List.getElem_toArray, List.getElem_cons_succ, List.getElem_cons_zero, Act.put, List.setIfInBounds_toArray, List.set_cons_zero, List.set_cons_succ]
          iterate 2 (refine planE_pure (v := ?_) rfl (by rfl) (fun w' => ?_) ?_; rotate_left; (focus (simp only [List.getElem_toArray, List.getElem_cons_succ, List.getElem_cons_zero]; go_simp; first | with_reducible rfl | (simp (disch := omega) only [if_pos, if_neg, dif_pos, Result.andThen_ok]; try with_reducible rfl) | skip)); try simp only [List.getElem_toArray, List.getElem_cons_succ, List.getElem_cons_zero, Act.put, List.setIfInBounds_toArray, List.set_cons_zero, List.set_cons_succ])
          refine planE_eff rfl (by rfl) (fun K hK => ?_)
          go_simp
          skip
          refine hK _ _ (by simp [owed, left] <;> (and_intros <;> first | trivial | assumption)) ?_
          clear hK K
          try simp only [List.getElem_toArray, List.getElem_cons_succ, List.getElem_cons_zero, Act.put, List.setIfInBounds_toArray, List.set_cons_zero, List.set_cons_succ]
          refine planE_end ?_
          have HF : Hid (RDone M S w g cD.2 (.int .i64 cD.1) (.returned (.int .i64 0)) (w11.setCell ⟨g, 1, none⟩ (.slice B' ys.length cu'))) := Lib.hid (by
            rw [HG2.out]
            have hgk : ∀ b, b ≠ g → (w11.setCell ⟨g, 1, none⟩ (.slice B' ys.length cu')).heap[b]? = w11.heap[b]? := fun b hb => Below.heap_setCell _ _ _ b hb
            have hsz : (w11.setCell ⟨g, 1, none⟩ (.slice B' ys.length cu')).heap.size = w11.heap.size := by simp
            have hSg : ∀ b, S b → b ≠ g := fun b hb e => by subst e; exact HR6.out.dis _ hb hmg
            have hS12 : ∀ b, S b → (w11.setCell ⟨g, 1, none⟩ (.slice B' ys.length cu')).heap[b]? = w10.heap[b]? := fun b hb => (hgk b (hSg b hb)).trans (HS11.out b hb)
            have hBg : ∀ b, B'.map (·.block) = some b → b ≠ g := fun b hb e => by subst e; exact HRW.out.ne_var hk11 (by decide) hb
            have hAg : ∀ b, A8.map (·.block) = some b → b ≠ g := fun b hb e => by have := HAB.out b hb; omega
            have hs0 := HWS.out
            have h10 : w10.heap.size ≤ w11.heap.size := hs11
            refine ⟨rfl, ⟨fun b => M b ∨ (B'.map (·.block) = some b ∧ w8.heap.size ≤ b ∧ b < w11.heap.size), fun b => S b ∨ A8.map (·.block) = some b, ⟨A, c, L, B', cu', U ++ [(⟨kind, name, off, data⟩, A8, c8)], ?_⟩, fun b hb => ?_, fun b hb => ?_⟩, HM11.out.setCell _ (.inl hmg) _⟩
            · refine ⟨?_, (HR6.out.sure.of_blocks (by omega) fun b _ hb => hS12 b hb).mono fun b _ hb => .inl hb, ⟨?_, fun b hb => ?_, fun p hp => ?_, fun p hp h0 b hb => ?_, fun p hp => ?_⟩, .inl hmg, ?_, ?_, ?_, ?_, fun b h1 h2 => ?_, fun b hb => ?_⟩
              · have := hk11.setCell 1 (.slice B' ys.length cu')
                rw [← HYL.out]
                rw [HBD.out] at this
                exact this
              · have := HRW.out
                rw [HYS.out] at this
                exact this.of_block fun b hb => hgk b (hBg b hb)
              · rcases HBB.out with e | e
                · rw [e] at hb; exact .inl (HR6.out.uns.own b hb)
                · rw [e] at hb
                  injection hb with hb
                  subst hb
                  have h12 := (HRW.out.blk_lt _ e).2
                  exact .inr ⟨e, hs6, h12⟩
              · rcases List.mem_append.1 hp with hp | hp
                · exact (HR6.out.uns.rb p hp).of_block (by omega) fun h0 b hb _ => hS12 b (HR6.out.uns.dat p hp h0 b hb)
                · rw [List.mem_singleton] at hp
                  subst hp
                  have := (HO11.out.of_block fun b hb => hgk b (hAg b hb)).rb
                  rw [HE8.out] at this
                  exact this
              · rcases List.mem_append.1 hp with hp | hp
                · exact .inl (HR6.out.uns.dat p hp h0 b hb)
                · rw [List.mem_singleton] at hp
                  subst hp
                  exact .inr hb
              · rcases List.mem_append.1 hp with hp | hp
                · exact HR6.out.uns.cap p hp
                · rw [List.mem_singleton] at hp
                  subst hp
                  have := HO11.out.cap.1
                  rw [HE8.out] at this
                  exact this
              · show L.map FRow.val = (burnD D).sure; exact HR6.out.vs
              · show _ = D.unsure ++ [_]
                rw [List.map_append, HR6.out.vu, burnD_unsure]
                rfl
              · show Rising (burnD D).sure; exact HR6.out.ris
              · exact HOK.out.changed hcok
              · rcases h1 with h1 | h1
                · rcases h2 with h2 | h2
                  · exact HR6.out.dis b h1 h2
                  · have := HR.out.bnd b (.inr h1)
                    omega
                · have := HAB.out b h1
                  rcases h2 with h2 | h2
                  · have := HR.out.bnd b (.inl h2); omega
                  · omega
              · rw [hsz]
                rcases hb with (hb | hb) | (hb | hb)
                · have := HR6.out.bnd b (.inl hb); omega
                · exact hb.2.2
                · have := HR6.out.bnd b (.inr hb); omega
                · have := HAB.out b hb; omega
            · rcases hb with hb | hb
              · exact .inl hb
              · have := hb.2.1; have := HWS.out; exact .inr ⟨by omega, by rw [hsz]; exact hb.2.2⟩
            · rcases hb with hb | hb
              · exact .inl hb
              · have := HAB.out b hb; exact .inr ⟨by omega, by rw [hsz]; omega⟩)
          clear HR6 HM6 HO6 HM11 HO11 HS11 HYS HYL HRW HBB HG2 HAB HWS HSZ9 HXN HBND HE8
          go_wp2_with fail
          go_ret
          exact HF.out
        · rw [hbd, if_pos rfl] at hG
          have HF : Hid (RDone M S w g cD.2 (.int .i64 cD.1) (.returned (.int .i64 11)) w7) := Lib.hid (by
            rw [hG]
            exact ⟨rfl, ⟨M, S, ⟨A, c, L, B, cu, U, H7.out⟩, fun b hb => .inl hb, fun b hb => .inl hb⟩, HM7.out⟩)
          clear HR HR6 hx6 hB6 H7 h7 hm7 HM7 hG HG BN hx7 hbd
          go_wp2_with fail
          go_ret
          exact HF.out
    · have HG := Lib.hid (HGOOD.out (fun h => hg1 h.1))
      clear HFULL HGOOD
      have BN := Lib.hid (refBurns HR6.out HD.out)
      go_wp2_with fail
      refine BN.out.mono ?_
      rintro e w7 ⟨rfl, h7, hm7⟩
      have hx7 : Blk w7 xb 73 #[.int .i64 kind, .string ⟨name.toArray⟩, .int .i64 (off : Int), .slice Y data.length cy] := hx6.mods hm7 (by rintro rfl; exact (h7.blk.lt |> fun _ => cells_ne HR6.out.blk hx6 (by decide)) rfl)
      have HM7 : Hid (Mods M w w7) := Lib.hid ((Mods.of_below hB6).then (hm7.mono fun b _ hb => by subst hb; exact hmg))
      have hxl : w.heap.size ≤ xb := by rw [HXB.out]; exact Nat.le_refl _
      have H7 := Lib.hid h7
      obtain ⟨hcok, hG⟩ := HG.out
      cases hbd : (burnD D).down
      · rw [hbd, if_neg (by simp)] at hG
        have HG2 := Lib.hid hG
        have HY7 := Lib.hid ((HYY.out.below hB6).mods hm7 (fun h0 b hb e => by subst e; exact HYM.out h0 _ hb hmg))
        clear h7 hm7 hG BN HR6 HG hx6 hB6
        have z3 := hx7.cell 3 rfl
        have q3 := hx7.free 3
        have hba : Below w7.heap.size w7 (w7.alloc (.cells #[] 5)) := (Below.refl _ _).alloc (Nat.le_refl _) _
        have HOE := Lib.hid (OB.made0 w7 (Nat.le_refl w7.heap.size))
        have HYa := Lib.hid (HY7.out.below hba)
        have hxa := hx7.kept hba
        have HRa := Lib.hid (H7.out.below hba)
        have HMa := Lib.hid (HM7.out.below hba)
        have HXLT := Lib.hid hx7.lt
        have z3a := hxa.cell 3 rfl
        have hbal : w7.heap.size ≤ (w7.alloc (.cells #[] 5)).heap.size := hba.size
        have hglt := H7.out.blk.lt
        have HBD := Lib.hid hbd
        clear hbd hba HY7 hx7
        go_wp2_with (at_builtin; refine wp_appendB _ rfl (.tmp 66) (.tmp 68) rfl w7.heap.size (some ⟨w7.heap.size, 0, none⟩) Y 0 cy [] data rfl rfl HOE.out HYa.out (by simp; omega) hbal ?_; intro d8 A8 c8 w8 hd8 hd81 hd82 ho8 hg8; have hx8 := hxa.grown hg8 (fun e => by injection e with e; have := HXLT.out; simp at e; omega); have z8 := hx8.cell 3 rfl; have q8 := hx8.free 3)
        have HE8 : Hid (d8 = data) := Lib.hid (by simpa using hd8.out)
        have hb8 : Below w7.heap.size w7 w8 := ((Below.refl w7.heap.size w7).alloc (Nat.le_refl _) _).grown hg8 (by simp) (fun b hb => by injection hb with hb; simp at hb; omega)
        have hx9 : Blk (w8.setCell ⟨xb, 3, none⟩ (.slice A8 d8.length c8)) xb 73 #[.int .i64 kind, .string ⟨name.toArray⟩, .int .i64 (off : Int), .slice A8 d8.length c8] := hx8.setCell 3 _
        have hm9 : Mods (fun b => b = xb) w7 (w8.setCell ⟨xb, 3, none⟩ (.slice A8 d8.length c8)) := Mods.setCell (S := fun b => b = xb) (Mods.of_below hb8) ⟨xb, 3, none⟩ (.inl rfl) _
        have HBND := Lib.hid H7.out.bnd
        have HXN : Hid (∀ b, M b ∨ S b → b ≠ xb) := Lib.hid fun b hb e => by have := HBNDW.out b hb; have := HXB.out; omega
        have HR9 := Lib.hid (H7.out.mods hm9 (fun b _ hb => HXN.out b hb))
        have HM9 : Hid (Mods M w (w8.setCell ⟨xb, 3, none⟩ (.slice A8 d8.length c8))) := Lib.hid ((HM7.out.below hb8).setCell _ (.inr (by rw [HXB.out]; exact Nat.le_refl _)) _)
        have HO9 := Lib.hid (ho8.of_block (w' := w8.setCell ⟨xb, 3, none⟩ (.slice A8 d8.length c8)) (fun b hb => Below.heap_setCell _ _ _ b (by rintro rfl; exact ho8.ne_var hx8 (by decide) hb)))
        have HAB : Hid (∀ b, A8.map (·.block) = some b → w7.heap.size ≤ b ∧ b < w8.heap.size) := Lib.hid ho8.blk_lt
        have HWS : Hid (w.heap.size ≤ w7.heap.size) := Lib.hid HM7.out.size
        have HW78 : Hid (w7.heap.size ≤ w8.heap.size) := Lib.hid hb8.size
        have HSZ9 : Hid ((w8.setCell ⟨xb, 3, none⟩ (.slice A8 d8.length c8)).heap.size = w8.heap.size) := Lib.hid (by simp)
        have hdl8 : d8.length ≤ 140737488355328 := by simp at hd81; omega
        clear hd8 hd81 hd82 ho8 hg8 hx8 z8 q8 hxa z3 q3 z3a HOE HYa HRa HMa HXLT hbal hb8 hm9 HM7 H7
        generalize w8.setCell ⟨xb, 3, none⟩ (.slice A8 d8.length c8) = w9 at *
        refine wp_region_planE_gen (by kernel_rfl) [(0, none), (1, none), (2, none), (3, none), (4, none), (5, none), (6, some [5]), (7, some [4]), (8, none), (9, none), (10, some [0, 1, 2, 3, 4, 5, 9])] (by kernel_rfl) (by kernel_rfl) (by decide) ?_
        intro wq hwq
        have hbq : Below w9.heap.size w9 wq := by rw [hwq]; exact (Below.refl _ _).drew
        have HRq := Lib.hid (HR9.out.below hbq)
        have HMq := Lib.hid (HM9.out.below hbq)
        have HOq := Lib.hid (HO9.out.below hbq)
        have hsq : w8.heap.size ≤ wq.heap.size := by rw [← HSZ9.out]; exact hbq.size
        have hxq := hx9.kept hbq
        have y0 := hxq.cell 0 rfl
        have y1 := hxq.cell 1 rfl
        have y2 := hxq.cell 2 rfl
        have y3 := hxq.cell 3 rfl
        have c1 := HRq.out.blk.cell 1 rfl
        clear hwq hbq HR9 HM9 HO9 hx9
        iterate 4 (refine planE_pure (v := ?_) rfl (by rfl) (fun w' => ?_) ?_; rotate_left; (focus (simp only [List.getElem_toArray, List.getElem_cons_succ, List.getElem_cons_zero]; go_simp; first | with_reducible rfl | (simp (disch := omega) only [if_pos, if_neg, dif_pos, Result.andThen_ok]; try with_reducible rfl) | skip)); try simp only [List.getElem_toArray, List.getElem_cons_succ, List.getElem_cons_zero, Act.put, List.setIfInBounds_toArray, List.set_cons_zero, List.set_cons_succ])
        refine planE_cells (v := ?_) [(⟨g, 1, none⟩, .slice B U.length cu)] (by simp; and_intros <;> assumption) rfl (by rfl) (fun w' hw' => ?_) ?_; rotate_left; (focus (simp only [List.forall_mem_cons, List.not_mem_nil, false_imp_iff, implies_true, and_true] at hw'; simp only [List.getElem_toArray, List.getElem_cons_succ, List.getElem_cons_zero]; go_simp; first | with_reducible rfl | (simp (disch := omega) only [if_pos, if_neg, dif_pos, Result.andThen_ok]; try with_reducible rfl) | skip)); try simp only [List.getElem_toArray, List.getElem_cons_succ, List.getElem_cons_zero, Act.put, List.setIfInBounds_toArray, List.set_cons_zero, List.set_cons_succ]
        refine planE_cells (v := ?_) [(⟨xb, 0, none⟩, .int .i64 kind), (⟨xb, 1, none⟩, .string ⟨name.toArray⟩), (⟨xb, 2, none⟩, .int .i64 (off : Int)), (⟨xb, 3, none⟩, .slice A8 d8.length c8)] (by simp; and_intros <;> assumption) rfl (by rfl) (fun w' hw' => ?_) ?_; rotate_left; (focus (simp only [List.forall_mem_cons, List.not_mem_nil, false_imp_iff, implies_true, and_true] at hw'; simp only [List.getElem_toArray, List.getElem_cons_succ, List.getElem_cons_zero]; go_simp; first | with_reducible rfl | (simp (disch := omega) only [if_pos, if_neg, dif_pos, Result.andThen_ok]; try with_reducible rfl) | skip)); try simp only [List.getElem_toArray, List.getElem_cons_succ, List.getElem_cons_zero, Act.put, List.setIfInBounds_toArray, List.set_cons_zero, List.set_cons_succ]
        refine planE_eff rfl (by rfl) (fun K hK => ?_)
        go_simp
        have hb2 : Below wq.heap.size wq (wq.alloc (.cells #[.int .i64 kind, .string ⟨name.toArray⟩, .int .i64 (off : Int), .slice A8 d8.length c8] 73)) := (Below.refl _ _).alloc (Nat.le_refl _) _
        have hL6 := Blk.new wq #[.int .i64 kind, .string ⟨name.toArray⟩, .int .i64 (off : Int), .slice A8 d8.length c8] 73
        have HR6 := Lib.hid (HRq.out.below hb2)
        have HM6 := Lib.hid (HMq.out.below hb2)
        have HO6 := Lib.hid (HOq.out.below hb2)
        have hs6 : w8.heap.size ≤ (wq.alloc (.cells #[.int .i64 kind, .string ⟨name.toArray⟩, .int .i64 (off : Int), .slice A8 d8.length c8] 73)).heap.size := Nat.le_trans hsq hb2.size
        have hw8 : w7.heap.size ≤ w8.heap.size := HW78.out
        have hxs := hxq.kept hb2
        obtain ⟨lb, hlb⟩ : ∃ lb, lb = wq.heap.size := ⟨_, rfl⟩
        rw [← hlb] at hL6 ⊢
        generalize wq.alloc (.cells #[.int .i64 kind, .string ⟨name.toArray⟩, .int .i64 (off : Int), .slice A8 d8.length c8] 73) = w10 at *
        clear y0 y1 y2 y3 c1 hb2 hlb HRq HMq HOq hxq hsq
        have y0 := hxs.cell 0 rfl
        have y1 := hxs.cell 1 rfl
        have y2 := hxs.cell 2 rfl
        have y3 := hxs.cell 3 rfl
        have c1 := HR6.out.blk.cell 1 rfl
        refine hK _ _ (by simp [owed, left] <;> (and_intros <;> first | trivial | assumption)) ?_
        clear hK K
        try simp only [List.getElem_toArray, List.getElem_cons_succ, List.getElem_cons_zero, Act.put, List.setIfInBounds_toArray, List.set_cons_zero, List.set_cons_succ]
        refine planE_eff rfl (by rfl) (fun K hK => ?_)
        obtain ⟨i0, hi0, hz0, hz1, hz2⟩ := info_parts write_info
        have hul : U.length ≤ 1000000 := by have := HR6.out.lens.2; rw [burnD_unsure] at this; unfold DSt.cnt at hcnt; omega
        refine op_appendS w10 (.tmp 75) (.tmp 77) 40 73 (by rfl) Tryd.underlying40 hi0 hz0 hz1 hz2 rfl (by decide) 0 B (some ⟨lb, 0, none⟩) cu 1 (U.map wrRow) [[.int .i64 kind, .string ⟨name.toArray⟩, .int .i64 (off : Int), .slice A8 d8.length c8]] (by simp; rfl) (by rfl) HR6.out.uns.row (RS.lit hL6) (by simp) (by simp [Value.oneCell']) (by simp; omega) (by simp; omega) (Nat.zero_le _) ?_
        intro ys B' cu' w11 hys hy1 hy2 hrow hg11 hB'
        have hm11 : Mods M w10 w11 := .of_grown hg11 fun k hk => HR6.out.uns.own k hk
        have HM11 := Lib.hid (HM6.out.then hm11)
        have hk11 := HR6.out.blk.grown hg11 (HR6.out.uns.row.ne_var HR6.out.blk (by decide))
        have HO11 := Lib.hid (HO6.out.grown_row hg11 (HO6.out.ne_row HR6.out.uns.row (by decide)))
        have HS11 : Hid (∀ b, S b → w11.heap[b]? = w10.heap[b]?) := Lib.hid fun b hb => hg11.block b (HR6.out.bnd b (.inr hb)) (fun e => HR6.out.dis b hb (HR6.out.uns.own b e.symm))
        have hs11 := hg11.size
        have hys' := hys.out
        have HYS : Hid (ys = (U ++ [((⟨kind, name, off, data⟩, A8, c8) : Wr × Option Addr × Nat)]).map wrRow) := Lib.hid (by rw [hys', HE8.out, List.map_append]; rfl)
        have HYL : Hid (ys.length = (U ++ [((⟨kind, name, off, data⟩, A8, c8) : Wr × Option Addr × Nat)]).length) := Lib.hid (by rw [HYS.out, List.length_map])
        have HRW := Lib.hid hrow
        have HBB := Lib.hid hB'
        clear y0 y1 y2 y3 c1 hL6 hys hys' hy1 hy2 hrow hg11 hB' hm11 hxs
        have c1 := hk11.cell 1 rfl
        have f1 := hk11.free 1
        refine hK _ _ (by simp [owed, left] <;> (and_intros <;> first | trivial | assumption)) ?_
        clear hK K
        try simp only [List.getElem_toArray, List.getElem_cons_succ, List.getElem_cons_zero, Act.put, List.setIfInBounds_toArray, List.set_cons_zero, List.set_cons_succ]
        iterate 2 (refine planE_pure (v := ?_) rfl (by rfl) (fun w' => ?_) ?_; rotate_left; (focus (simp only [List.getElem_toArray, List.getElem_cons_succ, List.getElem_cons_zero]; go_simp; first | with_reducible rfl | (simp (disch := omega) only [if_pos, if_neg, dif_pos, Result.andThen_ok]; try with_reducible rfl) | skip)); try simp only [List.getElem_toArray, List.getElem_cons_succ, List.getElem_cons_zero, Act.put, List.setIfInBounds_toArray, List.set_cons_zero, List.set_cons_succ])
        refine planE_eff rfl (by rfl) (fun K hK => ?_)
        go_simp
        skip
        refine hK _ _ (by simp [owed, left] <;> (and_intros <;> first | trivial | assumption)) ?_
        clear hK K
        try simp only [List.getElem_toArray, List.getElem_cons_succ, List.getElem_cons_zero, Act.put, List.setIfInBounds_toArray, List.set_cons_zero, List.set_cons_succ]
        refine planE_end ?_
        have HF : Hid (RDone M S w g cD.2 (.int .i64 cD.1) (.returned (.int .i64 0)) (w11.setCell ⟨g, 1, none⟩ (.slice B' ys.length cu'))) := Lib.hid (by
          rw [HG2.out]
          have hgk : ∀ b, b ≠ g → (w11.setCell ⟨g, 1, none⟩ (.slice B' ys.length cu')).heap[b]? = w11.heap[b]? := fun b hb => Below.heap_setCell _ _ _ b hb
          have hsz : (w11.setCell ⟨g, 1, none⟩ (.slice B' ys.length cu')).heap.size = w11.heap.size := by simp
          have hSg : ∀ b, S b → b ≠ g := fun b hb e => by subst e; exact HR6.out.dis _ hb hmg
          have hS12 : ∀ b, S b → (w11.setCell ⟨g, 1, none⟩ (.slice B' ys.length cu')).heap[b]? = w10.heap[b]? := fun b hb => (hgk b (hSg b hb)).trans (HS11.out b hb)
          have hBg : ∀ b, B'.map (·.block) = some b → b ≠ g := fun b hb e => by subst e; exact HRW.out.ne_var hk11 (by decide) hb
          have hAg : ∀ b, A8.map (·.block) = some b → b ≠ g := fun b hb e => by have := HAB.out b hb; omega
          have hs0 := HWS.out
          have h10 : w10.heap.size ≤ w11.heap.size := hs11
          refine ⟨rfl, ⟨fun b => M b ∨ (B'.map (·.block) = some b ∧ w8.heap.size ≤ b ∧ b < w11.heap.size), fun b => S b ∨ A8.map (·.block) = some b, ⟨A, c, L, B', cu', U ++ [(⟨kind, name, off, data⟩, A8, c8)], ?_⟩, fun b hb => ?_, fun b hb => ?_⟩, HM11.out.setCell _ (.inl hmg) _⟩
          · refine ⟨?_, (HR6.out.sure.of_blocks (by omega) fun b _ hb => hS12 b hb).mono fun b _ hb => .inl hb, ⟨?_, fun b hb => ?_, fun p hp => ?_, fun p hp h0 b hb => ?_, fun p hp => ?_⟩, .inl hmg, ?_, ?_, ?_, ?_, fun b h1 h2 => ?_, fun b hb => ?_⟩
            · have := hk11.setCell 1 (.slice B' ys.length cu')
              rw [← HYL.out]
              rw [HBD.out] at this
              exact this
            · have := HRW.out
              rw [HYS.out] at this
              exact this.of_block fun b hb => hgk b (hBg b hb)
            · rcases HBB.out with e | e
              · rw [e] at hb; exact .inl (HR6.out.uns.own b hb)
              · rw [e] at hb
                injection hb with hb
                subst hb
                have h12 := (HRW.out.blk_lt _ e).2
                exact .inr ⟨e, hs6, h12⟩
            · rcases List.mem_append.1 hp with hp | hp
              · exact (HR6.out.uns.rb p hp).of_block (by omega) fun h0 b hb _ => hS12 b (HR6.out.uns.dat p hp h0 b hb)
              · rw [List.mem_singleton] at hp
                subst hp
                have := (HO11.out.of_block fun b hb => hgk b (hAg b hb)).rb
                rw [HE8.out] at this
                exact this
            · rcases List.mem_append.1 hp with hp | hp
              · exact .inl (HR6.out.uns.dat p hp h0 b hb)
              · rw [List.mem_singleton] at hp
                subst hp
                exact .inr hb
            · rcases List.mem_append.1 hp with hp | hp
              · exact HR6.out.uns.cap p hp
              · rw [List.mem_singleton] at hp
                subst hp
                have := HO11.out.cap.1
                rw [HE8.out] at this
                exact this
            · show L.map FRow.val = (burnD D).sure; exact HR6.out.vs
            · show _ = D.unsure ++ [_]
              rw [List.map_append, HR6.out.vu, burnD_unsure]
              rfl
            · show Rising (burnD D).sure; exact HR6.out.ris
            · exact HOK.out.changed hcok
            · rcases h1 with h1 | h1
              · rcases h2 with h2 | h2
                · exact HR6.out.dis b h1 h2
                · have := HR.out.bnd b (.inr h1)
                  omega
              · have := HAB.out b h1
                rcases h2 with h2 | h2
                · have := HR.out.bnd b (.inl h2); omega
                · omega
            · rw [hsz]
              rcases hb with (hb | hb) | (hb | hb)
              · have := HR6.out.bnd b (.inl hb); omega
              · exact hb.2.2
              · have := HR6.out.bnd b (.inr hb); omega
              · have := HAB.out b hb; omega
          · rcases hb with hb | hb
            · exact .inl hb
            · have := hb.2.1; have := HWS.out; exact .inr ⟨by omega, by rw [hsz]; exact hb.2.2⟩
          · rcases hb with hb | hb
            · exact .inl hb
            · have := HAB.out b hb; exact .inr ⟨by omega, by rw [hsz]; omega⟩)
        clear HR6 HM6 HO6 HM11 HO11 HS11 HYS HYL HRW HBB HG2 HAB HWS HSZ9 HXN HBND HE8
        go_wp2_with fail
        go_ret
        exact HF.out
      · rw [hbd, if_pos rfl] at hG
        have HF : Hid (RDone M S w g cD.2 (.int .i64 cD.1) (.returned (.int .i64 11)) w7) := Lib.hid (by
          rw [hG]
          exact ⟨rfl, ⟨M, S, ⟨A, c, L, B, cu, U, H7.out⟩, fun b hb => .inl hb, fun b hb => .inl hb⟩, HM7.out⟩)
        clear HR HR6 hx6 hB6 H7 h7 hm7 HM7 hG HG BN hx7 hbd
        go_wp2_with fail
        go_ret
        exact HF.out
  case false =>
    have HNO : Hid (fget D.files name = none) := Lib.hid (by have := HFS.out; rw [hat] at this; simpa using this)
    by_cases hk3 : kind = 3
    · have hk3b : (kind != 3) = false := by rw [hk3]; rfl
      have HREST2 := HREST.out (fun h => h.2.1 hk3)
      clear HREST HMANY hat HFS HNO hk3
      go_wp2_with fail
      with_reducible refine HDO.out.mono ?_
      rintro e w4 ⟨A4, c4, L4, rfl, hv4, hO4, hb4⟩
      have hl4 : L4.length ≤ 1000001 := by have := congrArg List.length hv4.out; rw [List.length_map] at this; rw [this]; exact HDLEN.out
      have SZ := Lib.hid (refSize A4 c4 L4 w4 hO4.rd (by omega) (by rw [hv4.out, ← HSA.out]; exact hdo))
      rw [hv4.out, ← HSA.out] at SZ
      have HO4 := Lib.hid (HO3.out.below hb4)
      have hB4 := HB3.out.trans (hb4.mono HB3.out.size)
      have hx4 := hx3.kept hb4
      clear hO4 hb4 HO3 HDO y0 y1 y2 y3 hv4 HDLEN hx3 HB3
      go_wp2_with fail
      refine SZ.out.mono ?_
      rintro e w5 ⟨rfl, hb5⟩
      have SB := Lib.hid (HSB.out w5 (HO4.out.below hb5).rd (by omega) (by rw [hv2.out, ← HSBE.out]; exact hfs))
      rw [hv2.out, ← HSBE.out] at SB
      have hB5 := hB4.trans (hb5.mono hB4.size)
      have hx5 := hx4.kept hb5
      clear HO4 hb5 SZ HSB hB4 hx4
      go_wp2_with fail
      refine SB.out.mono ?_
      rintro e w6 ⟨rfl, hb6⟩
      have hB6 := hB5.trans (hb6.mono hB5.size)
      have hx6 := hx5.kept hb6
      have HR6 := Lib.hid (HR.out.below hB6)
      have c2' := HR6.out.blk.cell 2 rfl
      clear hb6 SB hB5 hx5
      obtain ⟨hfull, hgood⟩ := HREST2
      have HFULL := Lib.hid hfull
      have HGOOD := Lib.hid hgood
      clear hfull hgood
      obtain ⟨hroom0, hroom1⟩ := hroom
      generalize hrm : D.room = room at *
      by_cases hg1 : sB < sA
      · by_cases hg2 : room < (sA : Int)
        · have HF : Hid (RDone M S w g cD.2 (.int .i64 cD.1) (.returned (.int .i64 10)) w6) := Lib.hid (by rw [HFULL.out ⟨hg1, hg2⟩]; exact HR.out.same hB6 (.int .i64 10))
          clear HR HFULL HGOOD HR6 hx6 hB6
          go_wp2_with fail
          go_ret
          exact HF.out
        · have HG := Lib.hid (HGOOD.out (fun h => hg2 h.2))
          clear HFULL HGOOD
          have BN := Lib.hid (refBurns HR6.out HD.out)
          go_wp2_with fail
          refine BN.out.mono ?_
          rintro e w7 ⟨rfl, h7, hm7⟩
          have hx7 : Blk w7 xb 73 #[.int .i64 kind, .string ⟨name.toArray⟩, .int .i64 (off : Int), .slice Y data.length cy] := hx6.mods hm7 (by rintro rfl; exact (h7.blk.lt |> fun _ => cells_ne HR6.out.blk hx6 (by decide)) rfl)
          have HM7 : Hid (Mods M w w7) := Lib.hid ((Mods.of_below hB6).then (hm7.mono fun b _ hb => by subst hb; exact hmg))
          have hxl : w.heap.size ≤ xb := by rw [HXB.out]; exact Nat.le_refl _
          have H7 := Lib.hid h7
          obtain ⟨hcok, hG⟩ := HG.out
          cases hbd : (burnD D).down
          · rw [hbd, if_neg (by simp)] at hG
            have HG2 := Lib.hid hG
            have HY7 := Lib.hid ((HYY.out.below hB6).mods hm7 (fun h0 b hb e => by subst e; exact HYM.out h0 _ hb hmg))
            clear h7 hm7 hG BN HR6 HG hx6 hB6
            have z3 := hx7.cell 3 rfl
            have q3 := hx7.free 3
            have hba : Below w7.heap.size w7 (w7.alloc (.cells #[] 5)) := (Below.refl _ _).alloc (Nat.le_refl _) _
            have HOE := Lib.hid (OB.made0 w7 (Nat.le_refl w7.heap.size))
            have HYa := Lib.hid (HY7.out.below hba)
            have hxa := hx7.kept hba
            have HRa := Lib.hid (H7.out.below hba)
            have HMa := Lib.hid (HM7.out.below hba)
            have HXLT := Lib.hid hx7.lt
            have z3a := hxa.cell 3 rfl
            have hbal : w7.heap.size ≤ (w7.alloc (.cells #[] 5)).heap.size := hba.size
            have hglt := H7.out.blk.lt
            have HBD := Lib.hid hbd
            clear hbd hba HY7 hx7
            go_wp2_with (at_builtin; refine wp_appendB _ rfl (.tmp 66) (.tmp 68) rfl w7.heap.size (some ⟨w7.heap.size, 0, none⟩) Y 0 cy [] data rfl rfl HOE.out HYa.out (by simp; omega) hbal ?_; intro d8 A8 c8 w8 hd8 hd81 hd82 ho8 hg8; have hx8 := hxa.grown hg8 (fun e => by injection e with e; have := HXLT.out; simp at e; omega); have z8 := hx8.cell 3 rfl; have q8 := hx8.free 3)
            have HE8 : Hid (d8 = data) := Lib.hid (by simpa using hd8.out)
            have hb8 : Below w7.heap.size w7 w8 := ((Below.refl w7.heap.size w7).alloc (Nat.le_refl _) _).grown hg8 (by simp) (fun b hb => by injection hb with hb; simp at hb; omega)
            have hx9 : Blk (w8.setCell ⟨xb, 3, none⟩ (.slice A8 d8.length c8)) xb 73 #[.int .i64 kind, .string ⟨name.toArray⟩, .int .i64 (off : Int), .slice A8 d8.length c8] := hx8.setCell 3 _
            have hm9 : Mods (fun b => b = xb) w7 (w8.setCell ⟨xb, 3, none⟩ (.slice A8 d8.length c8)) := Mods.setCell (S := fun b => b = xb) (Mods.of_below hb8) ⟨xb, 3, none⟩ (.inl rfl) _
            have HBND := Lib.hid H7.out.bnd
            have HXN : Hid (∀ b, M b ∨ S b → b ≠ xb) := Lib.hid fun b hb e => by have := HBNDW.out b hb; have := HXB.out; omega
            have HR9 := Lib.hid (H7.out.mods hm9 (fun b _ hb => HXN.out b hb))
            have HM9 : Hid (Mods M w (w8.setCell ⟨xb, 3, none⟩ (.slice A8 d8.length c8))) := Lib.hid ((HM7.out.below hb8).setCell _ (.inr (by rw [HXB.out]; exact Nat.le_refl _)) _)
            have HO9 := Lib.hid (ho8.of_block (w' := w8.setCell ⟨xb, 3, none⟩ (.slice A8 d8.length c8)) (fun b hb => Below.heap_setCell _ _ _ b (by rintro rfl; exact ho8.ne_var hx8 (by decide) hb)))
            have HAB : Hid (∀ b, A8.map (·.block) = some b → w7.heap.size ≤ b ∧ b < w8.heap.size) := Lib.hid ho8.blk_lt
            have HWS : Hid (w.heap.size ≤ w7.heap.size) := Lib.hid HM7.out.size
            have HW78 : Hid (w7.heap.size ≤ w8.heap.size) := Lib.hid hb8.size
            have HSZ9 : Hid ((w8.setCell ⟨xb, 3, none⟩ (.slice A8 d8.length c8)).heap.size = w8.heap.size) := Lib.hid (by simp)
            have hdl8 : d8.length ≤ 140737488355328 := by simp at hd81; omega
            clear hd8 hd81 hd82 ho8 hg8 hx8 z8 q8 hxa z3 q3 z3a HOE HYa HRa HMa HXLT hbal hb8 hm9 HM7 H7
            generalize w8.setCell ⟨xb, 3, none⟩ (.slice A8 d8.length c8) = w9 at *
            refine wp_region_planE_gen (by kernel_rfl) [(0, none), (1, none), (2, none), (3, none), (4, none), (5, none), (6, some [5]), (7, some [4]), (8, none), (9, none), (10, some [0, 1, 2, 3, 4, 5, 9])] (by kernel_rfl) (by kernel_rfl) (by decide) ?_
            intro wq hwq
            have hbq : Below w9.heap.size w9 wq := by rw [hwq]; exact (Below.refl _ _).drew
            have HRq := Lib.hid (HR9.out.below hbq)
            have HMq := Lib.hid (HM9.out.below hbq)
            have HOq := Lib.hid (HO9.out.below hbq)
            have hsq : w8.heap.size ≤ wq.heap.size := by rw [← HSZ9.out]; exact hbq.size
            have hxq := hx9.kept hbq
            have y0 := hxq.cell 0 rfl
            have y1 := hxq.cell 1 rfl
            have y2 := hxq.cell 2 rfl
            have y3 := hxq.cell 3 rfl
            have c1 := HRq.out.blk.cell 1 rfl
            clear hwq hbq HR9 HM9 HO9 hx9
            iterate 4 (refine planE_pure (v := ?_) rfl (by rfl) (fun w' => ?_) ?_; rotate_left; (focus (simp only [List.getElem_toArray, List.getElem_cons_succ, List.getElem_cons_zero]; go_simp; first | with_reducible rfl | (simp (disch := omega) only [if_pos, if_neg, dif_pos, Result.andThen_ok]; try with_reducible rfl) | skip)); try simp only [List.getElem_toArray, List.getElem_cons_succ, List.getElem_cons_zero, Act.put, List.setIfInBounds_toArray, List.set_cons_zero, List.set_cons_succ])
            refine planE_cells (v := ?_) [(⟨g, 1, none⟩, .slice B U.length cu)] (by simp; and_intros <;> assumption) rfl (by rfl) (fun w' hw' => ?_) ?_; rotate_left; (focus (simp only [List.forall_mem_cons, List.not_mem_nil, false_imp_iff, implies_true, and_true] at hw'; simp only [List.getElem_toArray, List.getElem_cons_succ, List.getElem_cons_zero]; go_simp; first | with_reducible rfl | (simp (disch := omega) only [if_pos, if_neg, dif_pos, Result.andThen_ok]; try with_reducible rfl) | skip)); try simp only [List.getElem_toArray, List.getElem_cons_succ, List.getElem_cons_zero, Act.put, List.setIfInBounds_toArray, List.set_cons_zero, List.set_cons_succ]
            refine planE_cells (v := ?_) [(⟨xb, 0, none⟩, .int .i64 kind), (⟨xb, 1, none⟩, .string ⟨name.toArray⟩), (⟨xb, 2, none⟩, .int .i64 (off : Int)), (⟨xb, 3, none⟩, .slice A8 d8.length c8)] (by simp; and_intros <;> assumption) rfl (by rfl) (fun w' hw' => ?_) ?_; rotate_left; (focus (simp only [List.forall_mem_cons, List.not_mem_nil, false_imp_iff, implies_true, and_true] at hw'; simp only [List.getElem_toArray, List.getElem_cons_succ, List.getElem_cons_zero]; go_simp; first | with_reducible rfl | (simp (disch := omega) only [if_pos, if_neg, dif_pos, Result.andThen_ok]; try with_reducible rfl) | skip)); try simp only [List.getElem_toArray, List.getElem_cons_succ, List.getElem_cons_zero, Act.put, List.setIfInBounds_toArray, List.set_cons_zero, List.set_cons_succ]
            refine planE_eff rfl (by rfl) (fun K hK => ?_)
            go_simp
            have hb2 : Below wq.heap.size wq (wq.alloc (.cells #[.int .i64 kind, .string ⟨name.toArray⟩, .int .i64 (off : Int), .slice A8 d8.length c8] 73)) := (Below.refl _ _).alloc (Nat.le_refl _) _
            have hL6 := Blk.new wq #[.int .i64 kind, .string ⟨name.toArray⟩, .int .i64 (off : Int), .slice A8 d8.length c8] 73
            have HR6 := Lib.hid (HRq.out.below hb2)
            have HM6 := Lib.hid (HMq.out.below hb2)
            have HO6 := Lib.hid (HOq.out.below hb2)
            have hs6 : w8.heap.size ≤ (wq.alloc (.cells #[.int .i64 kind, .string ⟨name.toArray⟩, .int .i64 (off : Int), .slice A8 d8.length c8] 73)).heap.size := Nat.le_trans hsq hb2.size
            have hw8 : w7.heap.size ≤ w8.heap.size := HW78.out
            have hxs := hxq.kept hb2
            obtain ⟨lb, hlb⟩ : ∃ lb, lb = wq.heap.size := ⟨_, rfl⟩
            rw [← hlb] at hL6 ⊢
            generalize wq.alloc (.cells #[.int .i64 kind, .string ⟨name.toArray⟩, .int .i64 (off : Int), .slice A8 d8.length c8] 73) = w10 at *
            clear y0 y1 y2 y3 c1 hb2 hlb HRq HMq HOq hxq hsq
            have y0 := hxs.cell 0 rfl
            have y1 := hxs.cell 1 rfl
            have y2 := hxs.cell 2 rfl
            have y3 := hxs.cell 3 rfl
            have c1 := HR6.out.blk.cell 1 rfl
            refine hK _ _ (by simp [owed, left] <;> (and_intros <;> first | trivial | assumption)) ?_
            clear hK K
            try simp only [List.getElem_toArray, List.getElem_cons_succ, List.getElem_cons_zero, Act.put, List.setIfInBounds_toArray, List.set_cons_zero, List.set_cons_succ]
            refine planE_eff rfl (by rfl) (fun K hK => ?_)
            obtain ⟨i0, hi0, hz0, hz1, hz2⟩ := info_parts write_info
            have hul : U.length ≤ 1000000 := by have := HR6.out.lens.2; rw [burnD_unsure] at this; unfold DSt.cnt at hcnt; omega
            refine op_appendS w10 (.tmp 75) (.tmp 77) 40 73 (by rfl) Tryd.underlying40 hi0 hz0 hz1 hz2 rfl (by decide) 0 B (some ⟨lb, 0, none⟩) cu 1 (U.map wrRow) [[.int .i64 kind, .string ⟨name.toArray⟩, .int .i64 (off : Int), .slice A8 d8.length c8]] (by simp; rfl) (by rfl) HR6.out.uns.row (RS.lit hL6) (by simp) (by simp [Value.oneCell']) (by simp; omega) (by simp; omega) (Nat.zero_le _) ?_
            intro ys B' cu' w11 hys hy1 hy2 hrow hg11 hB'
            have hm11 : Mods M w10 w11 := .of_grown hg11 fun k hk => HR6.out.uns.own k hk
            have HM11 := Lib.hid (HM6.out.then hm11)
            have hk11 := HR6.out.blk.grown hg11 (HR6.out.uns.row.ne_var HR6.out.blk (by decide))
            have HO11 := Lib.hid (HO6.out.grown_row hg11 (HO6.out.ne_row HR6.out.uns.row (by decide)))
            have HS11 : Hid (∀ b, S b → w11.heap[b]? = w10.heap[b]?) := Lib.hid fun b hb => hg11.block b (HR6.out.bnd b (.inr hb)) (fun e => HR6.out.dis b hb (HR6.out.uns.own b e.symm))
            have hs11 := hg11.size
            have hys' := hys.out
            have HYS : Hid (ys = (U ++ [((⟨kind, name, off, data⟩, A8, c8) : Wr × Option Addr × Nat)]).map wrRow) := Lib.hid (by rw [hys', HE8.out, List.map_append]; rfl)
            have HYL : Hid (ys.length = (U ++ [((⟨kind, name, off, data⟩, A8, c8) : Wr × Option Addr × Nat)]).length) := Lib.hid (by rw [HYS.out, List.length_map])
            have HRW := Lib.hid hrow
            have HBB := Lib.hid hB'
            clear y0 y1 y2 y3 c1 hL6 hys hys' hy1 hy2 hrow hg11 hB' hm11 hxs
            have c1 := hk11.cell 1 rfl
            have f1 := hk11.free 1
            refine hK _ _ (by simp [owed, left] <;> (and_intros <;> first | trivial | assumption)) ?_
            clear hK K
            try simp only [List.getElem_toArray, List.getElem_cons_succ, List.getElem_cons_zero, Act.put, List.setIfInBounds_toArray, List.set_cons_zero, List.set_cons_succ]
            iterate 2 (refine planE_pure (v := ?_) rfl (by rfl) (fun w' => ?_) ?_; rotate_left; (focus (simp only [List.getElem_toArray, List.getElem_cons_succ, List.getElem_cons_zero]; go_simp; first | with_reducible rfl | (simp (disch := omega) only [if_pos, if_neg, dif_pos, Result.andThen_ok]; try with_reducible rfl) | skip)); try simp only [List.getElem_toArray, List.getElem_cons_succ, List.getElem_cons_zero, Act.put, List.setIfInBounds_toArray, List.set_cons_zero, List.set_cons_succ])
            refine planE_eff rfl (by rfl) (fun K hK => ?_)
            go_simp
            skip
            refine hK _ _ (by simp [owed, left] <;> (and_intros <;> first | trivial | assumption)) ?_
            clear hK K
            try simp only [List.getElem_toArray, List.getElem_cons_succ, List.getElem_cons_zero, Act.put, List.setIfInBounds_toArray, List.set_cons_zero, List.set_cons_succ]
            refine planE_end ?_
            have HF : Hid (RDone M S w g cD.2 (.int .i64 cD.1) (.returned (.int .i64 0)) (w11.setCell ⟨g, 1, none⟩ (.slice B' ys.length cu'))) := Lib.hid (by
              rw [HG2.out]
              have hgk : ∀ b, b ≠ g → (w11.setCell ⟨g, 1, none⟩ (.slice B' ys.length cu')).heap[b]? = w11.heap[b]? := fun b hb => Below.heap_setCell _ _ _ b hb
              have hsz : (w11.setCell ⟨g, 1, none⟩ (.slice B' ys.length cu')).heap.size = w11.heap.size := by simp
              have hSg : ∀ b, S b → b ≠ g := fun b hb e => by subst e; exact HR6.out.dis _ hb hmg
              have hS12 : ∀ b, S b → (w11.setCell ⟨g, 1, none⟩ (.slice B' ys.length cu')).heap[b]? = w10.heap[b]? := fun b hb => (hgk b (hSg b hb)).trans (HS11.out b hb)
              have hBg : ∀ b, B'.map (·.block) = some b → b ≠ g := fun b hb e => by subst e; exact HRW.out.ne_var hk11 (by decide) hb
              have hAg : ∀ b, A8.map (·.block) = some b → b ≠ g := fun b hb e => by have := HAB.out b hb; omega
              have hs0 := HWS.out
              have h10 : w10.heap.size ≤ w11.heap.size := hs11
              refine ⟨rfl, ⟨fun b => M b ∨ (B'.map (·.block) = some b ∧ w8.heap.size ≤ b ∧ b < w11.heap.size), fun b => S b ∨ A8.map (·.block) = some b, ⟨A, c, L, B', cu', U ++ [(⟨kind, name, off, data⟩, A8, c8)], ?_⟩, fun b hb => ?_, fun b hb => ?_⟩, HM11.out.setCell _ (.inl hmg) _⟩
              · refine ⟨?_, (HR6.out.sure.of_blocks (by omega) fun b _ hb => hS12 b hb).mono fun b _ hb => .inl hb, ⟨?_, fun b hb => ?_, fun p hp => ?_, fun p hp h0 b hb => ?_, fun p hp => ?_⟩, .inl hmg, ?_, ?_, ?_, ?_, fun b h1 h2 => ?_, fun b hb => ?_⟩
                · have := hk11.setCell 1 (.slice B' ys.length cu')
                  rw [← HYL.out]
                  rw [HBD.out] at this
                  exact this
                · have := HRW.out
                  rw [HYS.out] at this
                  exact this.of_block fun b hb => hgk b (hBg b hb)
                · rcases HBB.out with e | e
                  · rw [e] at hb; exact .inl (HR6.out.uns.own b hb)
                  · rw [e] at hb
                    injection hb with hb
                    subst hb
                    have h12 := (HRW.out.blk_lt _ e).2
                    exact .inr ⟨e, hs6, h12⟩
                · rcases List.mem_append.1 hp with hp | hp
                  · exact (HR6.out.uns.rb p hp).of_block (by omega) fun h0 b hb _ => hS12 b (HR6.out.uns.dat p hp h0 b hb)
                  · rw [List.mem_singleton] at hp
                    subst hp
                    have := (HO11.out.of_block fun b hb => hgk b (hAg b hb)).rb
                    rw [HE8.out] at this
                    exact this
                · rcases List.mem_append.1 hp with hp | hp
                  · exact .inl (HR6.out.uns.dat p hp h0 b hb)
                  · rw [List.mem_singleton] at hp
                    subst hp
                    exact .inr hb
                · rcases List.mem_append.1 hp with hp | hp
                  · exact HR6.out.uns.cap p hp
                  · rw [List.mem_singleton] at hp
                    subst hp
                    have := HO11.out.cap.1
                    rw [HE8.out] at this
                    exact this
                · show L.map FRow.val = (burnD D).sure; exact HR6.out.vs
                · show _ = D.unsure ++ [_]
                  rw [List.map_append, HR6.out.vu, burnD_unsure]
                  rfl
                · show Rising (burnD D).sure; exact HR6.out.ris
                · exact HOK.out.changed hcok
                · rcases h1 with h1 | h1
                  · rcases h2 with h2 | h2
                    · exact HR6.out.dis b h1 h2
                    · have := HR.out.bnd b (.inr h1)
                      omega
                  · have := HAB.out b h1
                    rcases h2 with h2 | h2
                    · have := HR.out.bnd b (.inl h2); omega
                    · omega
                · rw [hsz]
                  rcases hb with (hb | hb) | (hb | hb)
                  · have := HR6.out.bnd b (.inl hb); omega
                  · exact hb.2.2
                  · have := HR6.out.bnd b (.inr hb); omega
                  · have := HAB.out b hb; omega
              · rcases hb with hb | hb
                · exact .inl hb
                · have := hb.2.1; have := HWS.out; exact .inr ⟨by omega, by rw [hsz]; exact hb.2.2⟩
              · rcases hb with hb | hb
                · exact .inl hb
                · have := HAB.out b hb; exact .inr ⟨by omega, by rw [hsz]; omega⟩)
            clear HR6 HM6 HO6 HM11 HO11 HS11 HYS HYL HRW HBB HG2 HAB HWS HSZ9 HXN HBND HE8
            go_wp2_with fail
            go_ret
            exact HF.out
          · rw [hbd, if_pos rfl] at hG
            have HF : Hid (RDone M S w g cD.2 (.int .i64 cD.1) (.returned (.int .i64 11)) w7) := Lib.hid (by
              rw [hG]
              exact ⟨rfl, ⟨M, S, ⟨A, c, L, B, cu, U, H7.out⟩, fun b hb => .inl hb, fun b hb => .inl hb⟩, HM7.out⟩)
            clear HR HR6 hx6 hB6 H7 h7 hm7 HM7 hG HG BN hx7 hbd
            go_wp2_with fail
            go_ret
            exact HF.out
      · have HG := Lib.hid (HGOOD.out (fun h => hg1 h.1))
        clear HFULL HGOOD
        have BN := Lib.hid (refBurns HR6.out HD.out)
        go_wp2_with fail
        refine BN.out.mono ?_
        rintro e w7 ⟨rfl, h7, hm7⟩
        have hx7 : Blk w7 xb 73 #[.int .i64 kind, .string ⟨name.toArray⟩, .int .i64 (off : Int), .slice Y data.length cy] := hx6.mods hm7 (by rintro rfl; exact (h7.blk.lt |> fun _ => cells_ne HR6.out.blk hx6 (by decide)) rfl)
        have HM7 : Hid (Mods M w w7) := Lib.hid ((Mods.of_below hB6).then (hm7.mono fun b _ hb => by subst hb; exact hmg))
        have hxl : w.heap.size ≤ xb := by rw [HXB.out]; exact Nat.le_refl _
        have H7 := Lib.hid h7
        obtain ⟨hcok, hG⟩ := HG.out
        cases hbd : (burnD D).down
        · rw [hbd, if_neg (by simp)] at hG
          have HG2 := Lib.hid hG
          have HY7 := Lib.hid ((HYY.out.below hB6).mods hm7 (fun h0 b hb e => by subst e; exact HYM.out h0 _ hb hmg))
          clear h7 hm7 hG BN HR6 HG hx6 hB6
          have z3 := hx7.cell 3 rfl
          have q3 := hx7.free 3
          have hba : Below w7.heap.size w7 (w7.alloc (.cells #[] 5)) := (Below.refl _ _).alloc (Nat.le_refl _) _
          have HOE := Lib.hid (OB.made0 w7 (Nat.le_refl w7.heap.size))
          have HYa := Lib.hid (HY7.out.below hba)
          have hxa := hx7.kept hba
          have HRa := Lib.hid (H7.out.below hba)
          have HMa := Lib.hid (HM7.out.below hba)
          have HXLT := Lib.hid hx7.lt
          have z3a := hxa.cell 3 rfl
          have hbal : w7.heap.size ≤ (w7.alloc (.cells #[] 5)).heap.size := hba.size
          have hglt := H7.out.blk.lt
          have HBD := Lib.hid hbd
          clear hbd hba HY7 hx7
          go_wp2_with (at_builtin; refine wp_appendB _ rfl (.tmp 66) (.tmp 68) rfl w7.heap.size (some ⟨w7.heap.size, 0, none⟩) Y 0 cy [] data rfl rfl HOE.out HYa.out (by simp; omega) hbal ?_; intro d8 A8 c8 w8 hd8 hd81 hd82 ho8 hg8; have hx8 := hxa.grown hg8 (fun e => by injection e with e; have := HXLT.out; simp at e; omega); have z8 := hx8.cell 3 rfl; have q8 := hx8.free 3)
          have HE8 : Hid (d8 = data) := Lib.hid (by simpa using hd8.out)
          have hb8 : Below w7.heap.size w7 w8 := ((Below.refl w7.heap.size w7).alloc (Nat.le_refl _) _).grown hg8 (by simp) (fun b hb => by injection hb with hb; simp at hb; omega)
          have hx9 : Blk (w8.setCell ⟨xb, 3, none⟩ (.slice A8 d8.length c8)) xb 73 #[.int .i64 kind, .string ⟨name.toArray⟩, .int .i64 (off : Int), .slice A8 d8.length c8] := hx8.setCell 3 _
          have hm9 : Mods (fun b => b = xb) w7 (w8.setCell ⟨xb, 3, none⟩ (.slice A8 d8.length c8)) := Mods.setCell (S := fun b => b = xb) (Mods.of_below hb8) ⟨xb, 3, none⟩ (.inl rfl) _
          have HBND := Lib.hid H7.out.bnd
          have HXN : Hid (∀ b, M b ∨ S b → b ≠ xb) := Lib.hid fun b hb e => by have := HBNDW.out b hb; have := HXB.out; omega
          have HR9 := Lib.hid (H7.out.mods hm9 (fun b _ hb => HXN.out b hb))
          have HM9 : Hid (Mods M w (w8.setCell ⟨xb, 3, none⟩ (.slice A8 d8.length c8))) := Lib.hid ((HM7.out.below hb8).setCell _ (.inr (by rw [HXB.out]; exact Nat.le_refl _)) _)
          have HO9 := Lib.hid (ho8.of_block (w' := w8.setCell ⟨xb, 3, none⟩ (.slice A8 d8.length c8)) (fun b hb => Below.heap_setCell _ _ _ b (by rintro rfl; exact ho8.ne_var hx8 (by decide) hb)))
          have HAB : Hid (∀ b, A8.map (·.block) = some b → w7.heap.size ≤ b ∧ b < w8.heap.size) := Lib.hid ho8.blk_lt
          have HWS : Hid (w.heap.size ≤ w7.heap.size) := Lib.hid HM7.out.size
          have HW78 : Hid (w7.heap.size ≤ w8.heap.size) := Lib.hid hb8.size
          have HSZ9 : Hid ((w8.setCell ⟨xb, 3, none⟩ (.slice A8 d8.length c8)).heap.size = w8.heap.size) := Lib.hid (by simp)
          have hdl8 : d8.length ≤ 140737488355328 := by simp at hd81; omega
          clear hd8 hd81 hd82 ho8 hg8 hx8 z8 q8 hxa z3 q3 z3a HOE HYa HRa HMa HXLT hbal hb8 hm9 HM7 H7
          generalize w8.setCell ⟨xb, 3, none⟩ (.slice A8 d8.length c8) = w9 at *
          refine wp_region_planE_gen (by kernel_rfl) [(0, none), (1, none), (2, none), (3, none), (4, none), (5, none), (6, some [5]), (7, some [4]), (8, none), (9, none), (10, some [0, 1, 2, 3, 4, 5, 9])] (by kernel_rfl) (by kernel_rfl) (by decide) ?_
          intro wq hwq
          have hbq : Below w9.heap.size w9 wq := by rw [hwq]; exact (Below.refl _ _).drew
          have HRq := Lib.hid (HR9.out.below hbq)
          have HMq := Lib.hid (HM9.out.below hbq)
          have HOq := Lib.hid (HO9.out.below hbq)
          have hsq : w8.heap.size ≤ wq.heap.size := by rw [← HSZ9.out]; exact hbq.size
          have hxq := hx9.kept hbq
          have y0 := hxq.cell 0 rfl
          have y1 := hxq.cell 1 rfl
          have y2 := hxq.cell 2 rfl
          have y3 := hxq.cell 3 rfl
          have c1 := HRq.out.blk.cell 1 rfl
          clear hwq hbq HR9 HM9 HO9 hx9
          iterate 4 (refine planE_pure (v := ?_) rfl (by rfl) (fun w' => ?_) ?_; rotate_left; (focus (simp only [List.getElem_toArray, List.getElem_cons_succ, List.getElem_cons_zero]; go_simp; first | with_reducible rfl | (simp (disch := omega) only [if_pos, if_neg, dif_pos, Result.andThen_ok]; try with_reducible rfl) | skip)); try simp only [List.getElem_toArray, List.getElem_cons_succ, List.getElem_cons_zero, Act.put, List.setIfInBounds_toArray, List.set_cons_zero, List.set_cons_succ])
          refine planE_cells (v := ?_) [(⟨g, 1, none⟩, .slice B U.length cu)] (by simp; and_intros <;> assumption) rfl (by rfl) (fun w' hw' => ?_) ?_; rotate_left; (focus (simp only [List.forall_mem_cons, List.not_mem_nil, false_imp_iff, implies_true, and_true] at hw'; simp only [List.getElem_toArray, List.getElem_cons_succ, List.getElem_cons_zero]; go_simp; first | with_reducible rfl | (simp (disch := omega) only [if_pos, if_neg, dif_pos, Result.andThen_ok]; try with_reducible rfl) | skip)); try simp only [List.getElem_toArray, List.getElem_cons_succ, List.getElem_cons_zero, Act.put, List.setIfInBounds_toArray, List.set_cons_zero, List.set_cons_succ]
          refine planE_cells (v := ?_) [(⟨xb, 0, none⟩, .int .i64 kind), (⟨xb, 1, none⟩, .string ⟨name.toArray⟩), (⟨xb, 2, none⟩, .int .i64 (off : Int)), (⟨xb, 3, none⟩, .slice A8 d8.length c8)] (by simp; and_intros <;> assumption) rfl (by rfl) (fun w' hw' => ?_) ?_; rotate_left; (focus (simp only [List.forall_mem_cons, List.not_mem_nil, false_imp_iff, implies_true, and_true] at hw'; simp only [List.getElem_toArray, List.getElem_cons_succ, List.getElem_cons_zero]; go_simp; first | with_reducible rfl | (simp (disch := omega) only [if_pos, if_neg, dif_pos, Result.andThen_ok]; try with_reducible rfl) | skip)); try simp only [List.getElem_toArray, List.getElem_cons_succ, List.getElem_cons_zero, Act.put, List.setIfInBounds_toArray, List.set_cons_zero, List.set_cons_succ]
          refine planE_eff rfl (by rfl) (fun K hK => ?_)
          go_simp
          have hb2 : Below wq.heap.size wq (wq.alloc (.cells #[.int .i64 kind, .string ⟨name.toArray⟩, .int .i64 (off : Int), .slice A8 d8.length c8] 73)) := (Below.refl _ _).alloc (Nat.le_refl _) _
          have hL6 := Blk.new wq #[.int .i64 kind, .string ⟨name.toArray⟩, .int .i64 (off : Int), .slice A8 d8.length c8] 73
          have HR6 := Lib.hid (HRq.out.below hb2)
          have HM6 := Lib.hid (HMq.out.below hb2)
          have HO6 := Lib.hid (HOq.out.below hb2)
          have hs6 : w8.heap.size ≤ (wq.alloc (.cells #[.int .i64 kind, .string ⟨name.toArray⟩, .int .i64 (off : Int), .slice A8 d8.length c8] 73)).heap.size := Nat.le_trans hsq hb2.size
          have hw8 : w7.heap.size ≤ w8.heap.size := HW78.out
          have hxs := hxq.kept hb2
          obtain ⟨lb, hlb⟩ : ∃ lb, lb = wq.heap.size := ⟨_, rfl⟩
          rw [← hlb] at hL6 ⊢
          generalize wq.alloc (.cells #[.int .i64 kind, .string ⟨name.toArray⟩, .int .i64 (off : Int), .slice A8 d8.length c8] 73) = w10 at *
          clear y0 y1 y2 y3 c1 hb2 hlb HRq HMq HOq hxq hsq
          have y0 := hxs.cell 0 rfl
          have y1 := hxs.cell 1 rfl
          have y2 := hxs.cell 2 rfl
          have y3 := hxs.cell 3 rfl
          have c1 := HR6.out.blk.cell 1 rfl
          refine hK _ _ (by simp [owed, left] <;> (and_intros <;> first | trivial | assumption)) ?_
          clear hK K
          try simp only [List.getElem_toArray, List.getElem_cons_succ, List.getElem_cons_zero, Act.put, List.setIfInBounds_toArray, List.set_cons_zero, List.set_cons_succ]
          refine planE_eff rfl (by rfl) (fun K hK => ?_)
          obtain ⟨i0, hi0, hz0, hz1, hz2⟩ := info_parts write_info
          have hul : U.length ≤ 1000000 := by have := HR6.out.lens.2; rw [burnD_unsure] at this; unfold DSt.cnt at hcnt; omega
          refine op_appendS w10 (.tmp 75) (.tmp 77) 40 73 (by rfl) Tryd.underlying40 hi0 hz0 hz1 hz2 rfl (by decide) 0 B (some ⟨lb, 0, none⟩) cu 1 (U.map wrRow) [[.int .i64 kind, .string ⟨name.toArray⟩, .int .i64 (off : Int), .slice A8 d8.length c8]] (by simp; rfl) (by rfl) HR6.out.uns.row (RS.lit hL6) (by simp) (by simp [Value.oneCell']) (by simp; omega) (by simp; omega) (Nat.zero_le _) ?_
          intro ys B' cu' w11 hys hy1 hy2 hrow hg11 hB'
          have hm11 : Mods M w10 w11 := .of_grown hg11 fun k hk => HR6.out.uns.own k hk
          have HM11 := Lib.hid (HM6.out.then hm11)
          have hk11 := HR6.out.blk.grown hg11 (HR6.out.uns.row.ne_var HR6.out.blk (by decide))
          have HO11 := Lib.hid (HO6.out.grown_row hg11 (HO6.out.ne_row HR6.out.uns.row (by decide)))
          have HS11 : Hid (∀ b, S b → w11.heap[b]? = w10.heap[b]?) := Lib.hid fun b hb => hg11.block b (HR6.out.bnd b (.inr hb)) (fun e => HR6.out.dis b hb (HR6.out.uns.own b e.symm))
          have hs11 := hg11.size
          have hys' := hys.out
          have HYS : Hid (ys = (U ++ [((⟨kind, name, off, data⟩, A8, c8) : Wr × Option Addr × Nat)]).map wrRow) := Lib.hid (by rw [hys', HE8.out, List.map_append]; rfl)
          have HYL : Hid (ys.length = (U ++ [((⟨kind, name, off, data⟩, A8, c8) : Wr × Option Addr × Nat)]).length) := Lib.hid (by rw [HYS.out, List.length_map])
          have HRW := Lib.hid hrow
          have HBB := Lib.hid hB'
          clear y0 y1 y2 y3 c1 hL6 hys hys' hy1 hy2 hrow hg11 hB' hm11 hxs
          have c1 := hk11.cell 1 rfl
          have f1 := hk11.free 1
          refine hK _ _ (by simp [owed, left] <;> (and_intros <;> first | trivial | assumption)) ?_
          clear hK K
          try simp only [List.getElem_toArray, List.getElem_cons_succ, List.getElem_cons_zero, Act.put, List.setIfInBounds_toArray, List.set_cons_zero, List.set_cons_succ]
          iterate 2 (refine planE_pure (v := ?_) rfl (by rfl) (fun w' => ?_) ?_; rotate_left; (focus (simp only [List.getElem_toArray, List.getElem_cons_succ, List.getElem_cons_zero]; go_simp; first | with_reducible rfl | (simp (disch := omega) only [if_pos, if_neg, dif_pos, Result.andThen_ok]; try with_reducible rfl) | skip)); try simp only [List.getElem_toArray, List.getElem_cons_succ, List.getElem_cons_zero, Act.put, List.setIfInBounds_toArray, List.set_cons_zero, List.set_cons_succ])
          refine planE_eff rfl (by rfl) (fun K hK => ?_)
          go_simp
          skip
          refine hK _ _ (by simp [owed, left] <;> (and_intros <;> first | trivial | assumption)) ?_
          clear hK K
          try simp only [List.getElem_toArray, List.getElem_cons_succ, List.getElem_cons_zero, Act.put, List.setIfInBounds_toArray, List.set_cons_zero, List.set_cons_succ]
          refine planE_end ?_
          have HF : Hid (RDone M S w g cD.2 (.int .i64 cD.1) (.returned (.int .i64 0)) (w11.setCell ⟨g, 1, none⟩ (.slice B' ys.length cu'))) := Lib.hid (by
            rw [HG2.out]
            have hgk : ∀ b, b ≠ g → (w11.setCell ⟨g, 1, none⟩ (.slice B' ys.length cu')).heap[b]? = w11.heap[b]? := fun b hb => Below.heap_setCell _ _ _ b hb
            have hsz : (w11.setCell ⟨g, 1, none⟩ (.slice B' ys.length cu')).heap.size = w11.heap.size := by simp
            have hSg : ∀ b, S b → b ≠ g := fun b hb e => by subst e; exact HR6.out.dis _ hb hmg
            have hS12 : ∀ b, S b → (w11.setCell ⟨g, 1, none⟩ (.slice B' ys.length cu')).heap[b]? = w10.heap[b]? := fun b hb => (hgk b (hSg b hb)).trans (HS11.out b hb)
            have hBg : ∀ b, B'.map (·.block) = some b → b ≠ g := fun b hb e => by subst e; exact HRW.out.ne_var hk11 (by decide) hb
            have hAg : ∀ b, A8.map (·.block) = some b → b ≠ g := fun b hb e => by have := HAB.out b hb; omega
            have hs0 := HWS.out
            have h10 : w10.heap.size ≤ w11.heap.size := hs11
            refine ⟨rfl, ⟨fun b => M b ∨ (B'.map (·.block) = some b ∧ w8.heap.size ≤ b ∧ b < w11.heap.size), fun b => S b ∨ A8.map (·.block) = some b, ⟨A, c, L, B', cu', U ++ [(⟨kind, name, off, data⟩, A8, c8)], ?_⟩, fun b hb => ?_, fun b hb => ?_⟩, HM11.out.setCell _ (.inl hmg) _⟩
            · refine ⟨?_, (HR6.out.sure.of_blocks (by omega) fun b _ hb => hS12 b hb).mono fun b _ hb => .inl hb, ⟨?_, fun b hb => ?_, fun p hp => ?_, fun p hp h0 b hb => ?_, fun p hp => ?_⟩, .inl hmg, ?_, ?_, ?_, ?_, fun b h1 h2 => ?_, fun b hb => ?_⟩
              · have := hk11.setCell 1 (.slice B' ys.length cu')
                rw [← HYL.out]
                rw [HBD.out] at this
                exact this
              · have := HRW.out
                rw [HYS.out] at this
                exact this.of_block fun b hb => hgk b (hBg b hb)
              · rcases HBB.out with e | e
                · rw [e] at hb; exact .inl (HR6.out.uns.own b hb)
                · rw [e] at hb
                  injection hb with hb
                  subst hb
                  have h12 := (HRW.out.blk_lt _ e).2
                  exact .inr ⟨e, hs6, h12⟩
              · rcases List.mem_append.1 hp with hp | hp
                · exact (HR6.out.uns.rb p hp).of_block (by omega) fun h0 b hb _ => hS12 b (HR6.out.uns.dat p hp h0 b hb)
                · rw [List.mem_singleton] at hp
                  subst hp
                  have := (HO11.out.of_block fun b hb => hgk b (hAg b hb)).rb
                  rw [HE8.out] at this
                  exact this
              · rcases List.mem_append.1 hp with hp | hp
                · exact .inl (HR6.out.uns.dat p hp h0 b hb)
                · rw [List.mem_singleton] at hp
                  subst hp
                  exact .inr hb
              · rcases List.mem_append.1 hp with hp | hp
                · exact HR6.out.uns.cap p hp
                · rw [List.mem_singleton] at hp
                  subst hp
                  have := HO11.out.cap.1
                  rw [HE8.out] at this
                  exact this
              · show L.map FRow.val = (burnD D).sure; exact HR6.out.vs
              · show _ = D.unsure ++ [_]
                rw [List.map_append, HR6.out.vu, burnD_unsure]
                rfl
              · show Rising (burnD D).sure; exact HR6.out.ris
              · exact HOK.out.changed hcok
              · rcases h1 with h1 | h1
                · rcases h2 with h2 | h2
                  · exact HR6.out.dis b h1 h2
                  · have := HR.out.bnd b (.inr h1)
                    omega
                · have := HAB.out b h1
                  rcases h2 with h2 | h2
                  · have := HR.out.bnd b (.inl h2); omega
                  · omega
              · rw [hsz]
                rcases hb with (hb | hb) | (hb | hb)
                · have := HR6.out.bnd b (.inl hb); omega
                · exact hb.2.2
                · have := HR6.out.bnd b (.inr hb); omega
                · have := HAB.out b hb; omega
            · rcases hb with hb | hb
              · exact .inl hb
              · have := hb.2.1; have := HWS.out; exact .inr ⟨by omega, by rw [hsz]; exact hb.2.2⟩
            · rcases hb with hb | hb
              · exact .inl hb
              · have := HAB.out b hb; exact .inr ⟨by omega, by rw [hsz]; omega⟩)
          clear HR6 HM6 HO6 HM11 HO11 HS11 HYS HYL HRW HBB HG2 HAB HWS HSZ9 HXN HBND HE8
          go_wp2_with fail
          go_ret
          exact HF.out
        · rw [hbd, if_pos rfl] at hG
          have HF : Hid (RDone M S w g cD.2 (.int .i64 cD.1) (.returned (.int .i64 11)) w7) := Lib.hid (by
            rw [hG]
            exact ⟨rfl, ⟨M, S, ⟨A, c, L, B, cu, U, H7.out⟩, fun b hb => .inl hb, fun b hb => .inl hb⟩, HM7.out⟩)
          clear HR HR6 hx6 hB6 H7 h7 hm7 HM7 hG HG BN hx7 hbd
          go_wp2_with fail
          go_ret
          exact HF.out
    · have hk3b : (kind != 3) = true := by rw [bne_iff_ne]; exact hk3
      by_cases hlen : L2.length < 4096
      · have HREST2 := HREST.out (fun h => by have := HL2.out; omega)
        clear HREST HMANY hat HFS HNO hk3
        go_wp2_with fail
        with_reducible refine HDO.out.mono ?_
        rintro e w4 ⟨A4, c4, L4, rfl, hv4, hO4, hb4⟩
        have hl4 : L4.length ≤ 1000001 := by have := congrArg List.length hv4.out; rw [List.length_map] at this; rw [this]; exact HDLEN.out
        have SZ := Lib.hid (refSize A4 c4 L4 w4 hO4.rd (by omega) (by rw [hv4.out, ← HSA.out]; exact hdo))
        rw [hv4.out, ← HSA.out] at SZ
        have HO4 := Lib.hid (HO3.out.below hb4)
        have hB4 := HB3.out.trans (hb4.mono HB3.out.size)
        have hx4 := hx3.kept hb4
        clear hO4 hb4 HO3 HDO y0 y1 y2 y3 hv4 HDLEN hx3 HB3
        go_wp2_with fail
        refine SZ.out.mono ?_
        rintro e w5 ⟨rfl, hb5⟩
        have SB := Lib.hid (HSB.out w5 (HO4.out.below hb5).rd (by omega) (by rw [hv2.out, ← HSBE.out]; exact hfs))
        rw [hv2.out, ← HSBE.out] at SB
        have hB5 := hB4.trans (hb5.mono hB4.size)
        have hx5 := hx4.kept hb5
        clear HO4 hb5 SZ HSB hB4 hx4
        go_wp2_with fail
        refine SB.out.mono ?_
        rintro e w6 ⟨rfl, hb6⟩
        have hB6 := hB5.trans (hb6.mono hB5.size)
        have hx6 := hx5.kept hb6
        have HR6 := Lib.hid (HR.out.below hB6)
        have c2' := HR6.out.blk.cell 2 rfl
        clear hb6 SB hB5 hx5
        obtain ⟨hfull, hgood⟩ := HREST2
        have HFULL := Lib.hid hfull
        have HGOOD := Lib.hid hgood
        clear hfull hgood
        obtain ⟨hroom0, hroom1⟩ := hroom
        generalize hrm : D.room = room at *
        by_cases hg1 : sB < sA
        · by_cases hg2 : room < (sA : Int)
          · have HF : Hid (RDone M S w g cD.2 (.int .i64 cD.1) (.returned (.int .i64 10)) w6) := Lib.hid (by rw [HFULL.out ⟨hg1, hg2⟩]; exact HR.out.same hB6 (.int .i64 10))
            clear HR HFULL HGOOD HR6 hx6 hB6
            go_wp2_with fail
            go_ret
            exact HF.out
          · have HG := Lib.hid (HGOOD.out (fun h => hg2 h.2))
            clear HFULL HGOOD
            have BN := Lib.hid (refBurns HR6.out HD.out)
            go_wp2_with fail
            refine BN.out.mono ?_
            rintro e w7 ⟨rfl, h7, hm7⟩
            have hx7 : Blk w7 xb 73 #[.int .i64 kind, .string ⟨name.toArray⟩, .int .i64 (off : Int), .slice Y data.length cy] := hx6.mods hm7 (by rintro rfl; exact (h7.blk.lt |> fun _ => cells_ne HR6.out.blk hx6 (by decide)) rfl)
            have HM7 : Hid (Mods M w w7) := Lib.hid ((Mods.of_below hB6).then (hm7.mono fun b _ hb => by subst hb; exact hmg))
            have hxl : w.heap.size ≤ xb := by rw [HXB.out]; exact Nat.le_refl _
            have H7 := Lib.hid h7
            obtain ⟨hcok, hG⟩ := HG.out
            cases hbd : (burnD D).down
            · rw [hbd, if_neg (by simp)] at hG
              have HG2 := Lib.hid hG
              have HY7 := Lib.hid ((HYY.out.below hB6).mods hm7 (fun h0 b hb e => by subst e; exact HYM.out h0 _ hb hmg))
              clear h7 hm7 hG BN HR6 HG hx6 hB6
              have z3 := hx7.cell 3 rfl
              have q3 := hx7.free 3
              have hba : Below w7.heap.size w7 (w7.alloc (.cells #[] 5)) := (Below.refl _ _).alloc (Nat.le_refl _) _
              have HOE := Lib.hid (OB.made0 w7 (Nat.le_refl w7.heap.size))
              have HYa := Lib.hid (HY7.out.below hba)
              have hxa := hx7.kept hba
              have HRa := Lib.hid (H7.out.below hba)
              have HMa := Lib.hid (HM7.out.below hba)
              have HXLT := Lib.hid hx7.lt
              have z3a := hxa.cell 3 rfl
              have hbal : w7.heap.size ≤ (w7.alloc (.cells #[] 5)).heap.size := hba.size
              have hglt := H7.out.blk.lt
              have HBD := Lib.hid hbd
              clear hbd hba HY7 hx7
              go_wp2_with (at_builtin; refine wp_appendB _ rfl (.tmp 66) (.tmp 68) rfl w7.heap.size (some ⟨w7.heap.size, 0, none⟩) Y 0 cy [] data rfl rfl HOE.out HYa.out (by simp; omega) hbal ?_; intro d8 A8 c8 w8 hd8 hd81 hd82 ho8 hg8; have hx8 := hxa.grown hg8 (fun e => by injection e with e; have := HXLT.out; simp at e; omega); have z8 := hx8.cell 3 rfl; have q8 := hx8.free 3)
              have HE8 : Hid (d8 = data) := Lib.hid (by simpa using hd8.out)
              have hb8 : Below w7.heap.size w7 w8 := ((Below.refl w7.heap.size w7).alloc (Nat.le_refl _) _).grown hg8 (by simp) (fun b hb => by injection hb with hb; simp at hb; omega)
              have hx9 : Blk (w8.setCell ⟨xb, 3, none⟩ (.slice A8 d8.length c8)) xb 73 #[.int .i64 kind, .string ⟨name.toArray⟩, .int .i64 (off : Int), .slice A8 d8.length c8] := hx8.setCell 3 _
              have hm9 : Mods (fun b => b = xb) w7 (w8.setCell ⟨xb, 3, none⟩ (.slice A8 d8.length c8)) := Mods.setCell (S := fun b => b = xb) (Mods.of_below hb8) ⟨xb, 3, none⟩ (.inl rfl) _
              have HBND := Lib.hid H7.out.bnd
              have HXN : Hid (∀ b, M b ∨ S b → b ≠ xb) := Lib.hid fun b hb e => by have := HBNDW.out b hb; have := HXB.out; omega
              have HR9 := Lib.hid (H7.out.mods hm9 (fun b _ hb => HXN.out b hb))
              have HM9 : Hid (Mods M w (w8.setCell ⟨xb, 3, none⟩ (.slice A8 d8.length c8))) := Lib.hid ((HM7.out.below hb8).setCell _ (.inr (by rw [HXB.out]; exact Nat.le_refl _)) _)
              have HO9 := Lib.hid (ho8.of_block (w' := w8.setCell ⟨xb, 3, none⟩ (.slice A8 d8.length c8)) (fun b hb => Below.heap_setCell _ _ _ b (by rintro rfl; exact ho8.ne_var hx8 (by decide) hb)))
              have HAB : Hid (∀ b, A8.map (·.block) = some b → w7.heap.size ≤ b ∧ b < w8.heap.size) := Lib.hid ho8.blk_lt
              have HWS : Hid (w.heap.size ≤ w7.heap.size) := Lib.hid HM7.out.size
              have HW78 : Hid (w7.heap.size ≤ w8.heap.size) := Lib.hid hb8.size
              have HSZ9 : Hid ((w8.setCell ⟨xb, 3, none⟩ (.slice A8 d8.length c8)).heap.size = w8.heap.size) := Lib.hid (by simp)
              have hdl8 : d8.length ≤ 140737488355328 := by simp at hd81; omega
              clear hd8 hd81 hd82 ho8 hg8 hx8 z8 q8 hxa z3 q3 z3a HOE HYa HRa HMa HXLT hbal hb8 hm9 HM7 H7
              generalize w8.setCell ⟨xb, 3, none⟩ (.slice A8 d8.length c8) = w9 at *
              refine wp_region_planE_gen (by kernel_rfl) [(0, none), (1, none), (2, none), (3, none), (4, none), (5, none), (6, some [5]), (7, some [4]), (8, none), (9, none), (10, some [0, 1, 2, 3, 4, 5, 9])] (by kernel_rfl) (by kernel_rfl) (by decide) ?_
              intro wq hwq
              have hbq : Below w9.heap.size w9 wq := by rw [hwq]; exact (Below.refl _ _).drew
              have HRq := Lib.hid (HR9.out.below hbq)
              have HMq := Lib.hid (HM9.out.below hbq)
              have HOq := Lib.hid (HO9.out.below hbq)
              have hsq : w8.heap.size ≤ wq.heap.size := by rw [← HSZ9.out]; exact hbq.size
              have hxq := hx9.kept hbq
              have y0 := hxq.cell 0 rfl
              have y1 := hxq.cell 1 rfl
              have y2 := hxq.cell 2 rfl
              have y3 := hxq.cell 3 rfl
              have c1 := HRq.out.blk.cell 1 rfl
              clear hwq hbq HR9 HM9 HO9 hx9
              iterate 4 (refine planE_pure (v := ?_) rfl (by rfl) (fun w' => ?_) ?_; rotate_left; (focus (simp only [List.getElem_toArray, List.getElem_cons_succ, List.getElem_cons_zero]; go_simp; first | with_reducible rfl | (simp (disch := omega) only [if_pos, if_neg, dif_pos, Result.andThen_ok]; try with_reducible rfl) | skip)); try simp only [List.getElem_toArray, List.getElem_cons_succ, List.getElem_cons_zero, Act.put, List.setIfInBounds_toArray, List.set_cons_zero, List.set_cons_succ])
              refine planE_cells (v := ?_) [(⟨g, 1, none⟩, .slice B U.length cu)] (by simp; and_intros <;> assumption) rfl (by rfl) (fun w' hw' => ?_) ?_; rotate_left; (focus (simp only [List.forall_mem_cons, List.not_mem_nil, false_imp_iff, implies_true, and_true] at hw'; simp only [List.getElem_toArray, List.getElem_cons_succ, List.getElem_cons_zero]; go_simp; first | with_reducible rfl | (simp (disch := omega) only [if_pos, if_neg, dif_pos, Result.andThen_ok]; try with_reducible rfl) | skip)); try simp only [List.getElem_toArray, List.getElem_cons_succ, List.getElem_cons_zero, Act.put, List.setIfInBounds_toArray, List.set_cons_zero, List.set_cons_succ]
              refine planE_cells (v := ?_) [(⟨xb, 0, none⟩, .int .i64 kind), (⟨xb, 1, none⟩, .string ⟨name.toArray⟩), (⟨xb, 2, none⟩, .int .i64 (off : Int)), (⟨xb, 3, none⟩, .slice A8 d8.length c8)] (by simp; and_intros <;> assumption) rfl (by rfl) (fun w' hw' => ?_) ?_; rotate_left; (focus (simp only [List.forall_mem_cons, List.not_mem_nil, false_imp_iff, implies_true, and_true] at hw'; simp only [List.getElem_toArray, List.getElem_cons_succ, List.getElem_cons_zero]; go_simp; first | with_reducible rfl | (simp (disch := omega) only [if_pos, if_neg, dif_pos, Result.andThen_ok]; try with_reducible rfl) | skip)); try simp only [List.getElem_toArray, List.getElem_cons_succ, List.getElem_cons_zero, Act.put, List.setIfInBounds_toArray, List.set_cons_zero, List.set_cons_succ]
              refine planE_eff rfl (by rfl) (fun K hK => ?_)
              go_simp
              have hb2 : Below wq.heap.size wq (wq.alloc (.cells #[.int .i64 kind, .string ⟨name.toArray⟩, .int .i64 (off : Int), .slice A8 d8.length c8] 73)) := (Below.refl _ _).alloc (Nat.le_refl _) _
              have hL6 := Blk.new wq #[.int .i64 kind, .string ⟨name.toArray⟩, .int .i64 (off : Int), .slice A8 d8.length c8] 73
              have HR6 := Lib.hid (HRq.out.below hb2)
              have HM6 := Lib.hid (HMq.out.below hb2)
              have HO6 := Lib.hid (HOq.out.below hb2)
              have hs6 : w8.heap.size ≤ (wq.alloc (.cells #[.int .i64 kind, .string ⟨name.toArray⟩, .int .i64 (off : Int), .slice A8 d8.length c8] 73)).heap.size := Nat.le_trans hsq hb2.size
              have hw8 : w7.heap.size ≤ w8.heap.size := HW78.out
              have hxs := hxq.kept hb2
              obtain ⟨lb, hlb⟩ : ∃ lb, lb = wq.heap.size := ⟨_, rfl⟩
              rw [← hlb] at hL6 ⊢
              generalize wq.alloc (.cells #[.int .i64 kind, .string ⟨name.toArray⟩, .int .i64 (off : Int), .slice A8 d8.length c8] 73) = w10 at *
              clear y0 y1 y2 y3 c1 hb2 hlb HRq HMq HOq hxq hsq
              have y0 := hxs.cell 0 rfl
              have y1 := hxs.cell 1 rfl
              have y2 := hxs.cell 2 rfl
              have y3 := hxs.cell 3 rfl
              have c1 := HR6.out.blk.cell 1 rfl
              refine hK _ _ (by simp [owed, left] <;> (and_intros <;> first | trivial | assumption)) ?_
              clear hK K
              try simp only [List.getElem_toArray, List.getElem_cons_succ, List.getElem_cons_zero, Act.put, List.setIfInBounds_toArray, List.set_cons_zero, List.set_cons_succ]
              refine planE_eff rfl (by rfl) (fun K hK => ?_)
              obtain ⟨i0, hi0, hz0, hz1, hz2⟩ := info_parts write_info
              have hul : U.length ≤ 1000000 := by have := HR6.out.lens.2; rw [burnD_unsure] at this; unfold DSt.cnt at hcnt; omega
              refine op_appendS w10 (.tmp 75) (.tmp 77) 40 73 (by rfl) Tryd.underlying40 hi0 hz0 hz1 hz2 rfl (by decide) 0 B (some ⟨lb, 0, none⟩) cu 1 (U.map wrRow) [[.int .i64 kind, .string ⟨name.toArray⟩, .int .i64 (off : Int), .slice A8 d8.length c8]] (by simp; rfl) (by rfl) HR6.out.uns.row (RS.lit hL6) (by simp) (by simp [Value.oneCell']) (by simp; omega) (by simp; omega) (Nat.zero_le _) ?_
              intro ys B' cu' w11 hys hy1 hy2 hrow hg11 hB'
              have hm11 : Mods M w10 w11 := .of_grown hg11 fun k hk => HR6.out.uns.own k hk
              have HM11 := Lib.hid (HM6.out.then hm11)
              have hk11 := HR6.out.blk.grown hg11 (HR6.out.uns.row.ne_var HR6.out.blk (by decide))
              have HO11 := Lib.hid (HO6.out.grown_row hg11 (HO6.out.ne_row HR6.out.uns.row (by decide)))
              have HS11 : Hid (∀ b, S b → w11.heap[b]? = w10.heap[b]?) := Lib.hid fun b hb => hg11.block b (HR6.out.bnd b (.inr hb)) (fun e => HR6.out.dis b hb (HR6.out.uns.own b e.symm))
              have hs11 := hg11.size
              have hys' := hys.out
              have HYS : Hid (ys = (U ++ [((⟨kind, name, off, data⟩, A8, c8) : Wr × Option Addr × Nat)]).map wrRow) := Lib.hid (by rw [hys', HE8.out, List.map_append]; rfl)
              have HYL : Hid (ys.length = (U ++ [((⟨kind, name, off, data⟩, A8, c8) : Wr × Option Addr × Nat)]).length) := Lib.hid (by rw [HYS.out, List.length_map])
              have HRW := Lib.hid hrow
              have HBB := Lib.hid hB'
              clear y0 y1 y2 y3 c1 hL6 hys hys' hy1 hy2 hrow hg11 hB' hm11 hxs
              have c1 := hk11.cell 1 rfl
              have f1 := hk11.free 1
              refine hK _ _ (by simp [owed, left] <;> (and_intros <;> first | trivial | assumption)) ?_
              clear hK K
              try simp only [List.getElem_toArray, List.getElem_cons_succ, List.getElem_cons_zero, Act.put, List.setIfInBounds_toArray, List.set_cons_zero, List.set_cons_succ]
              iterate 2 (refine planE_pure (v := ?_) rfl (by rfl) (fun w' => ?_) ?_; rotate_left; (focus (simp only [List.getElem_toArray, List.getElem_cons_succ, List.getElem_cons_zero]; go_simp; first | with_reducible rfl | (simp (disch := omega) only [if_pos, if_neg, dif_pos, Result.andThen_ok]; try with_reducible rfl) | skip)); try simp only [List.getElem_toArray, List.getElem_cons_succ, List.getElem_cons_zero, Act.put, List.setIfInBounds_toArray, List.set_cons_zero, List.set_cons_succ])
              refine planE_eff rfl (by rfl) (fun K hK => ?_)
              go_simp
              skip
              refine hK _ _ (by simp [owed, left] <;> (and_intros <;> first | trivial | assumption)) ?_
              clear hK K
              try simp only [List.getElem_toArray, List.getElem_cons_succ, List.getElem_cons_zero, Act.put, List.setIfInBounds_toArray, List.set_cons_zero, List.set_cons_succ]
              refine planE_end ?_
              have HF : Hid (RDone M S w g cD.2 (.int .i64 cD.1) (.returned (.int .i64 0)) (w11.setCell ⟨g, 1, none⟩ (.slice B' ys.length cu'))) := Lib.hid (by
                rw [HG2.out]
                have hgk : ∀ b, b ≠ g → (w11.setCell ⟨g, 1, none⟩ (.slice B' ys.length cu')).heap[b]? = w11.heap[b]? := fun b hb => Below.heap_setCell _ _ _ b hb
                have hsz : (w11.setCell ⟨g, 1, none⟩ (.slice B' ys.length cu')).heap.size = w11.heap.size := by simp
                have hSg : ∀ b, S b → b ≠ g := fun b hb e => by subst e; exact HR6.out.dis _ hb hmg
                have hS12 : ∀ b, S b → (w11.setCell ⟨g, 1, none⟩ (.slice B' ys.length cu')).heap[b]? = w10.heap[b]? := fun b hb => (hgk b (hSg b hb)).trans (HS11.out b hb)
                have hBg : ∀ b, B'.map (·.block) = some b → b ≠ g := fun b hb e => by subst e; exact HRW.out.ne_var hk11 (by decide) hb
                have hAg : ∀ b, A8.map (·.block) = some b → b ≠ g := fun b hb e => by have := HAB.out b hb; omega
                have hs0 := HWS.out
                have h10 : w10.heap.size ≤ w11.heap.size := hs11
                refine ⟨rfl, ⟨fun b => M b ∨ (B'.map (·.block) = some b ∧ w8.heap.size ≤ b ∧ b < w11.heap.size), fun b => S b ∨ A8.map (·.block) = some b, ⟨A, c, L, B', cu', U ++ [(⟨kind, name, off, data⟩, A8, c8)], ?_⟩, fun b hb => ?_, fun b hb => ?_⟩, HM11.out.setCell _ (.inl hmg) _⟩
                · refine ⟨?_, (HR6.out.sure.of_blocks (by omega) fun b _ hb => hS12 b hb).mono fun b _ hb => .inl hb, ⟨?_, fun b hb => ?_, fun p hp => ?_, fun p hp h0 b hb => ?_, fun p hp => ?_⟩, .inl hmg, ?_, ?_, ?_, ?_, fun b h1 h2 => ?_, fun b hb => ?_⟩
                  · have := hk11.setCell 1 (.slice B' ys.length cu')
                    rw [← HYL.out]
                    rw [HBD.out] at this
                    exact this
                  · have := HRW.out
                    rw [HYS.out] at this
                    exact this.of_block fun b hb => hgk b (hBg b hb)
                  · rcases HBB.out with e | e
                    · rw [e] at hb; exact .inl (HR6.out.uns.own b hb)
                    · rw [e] at hb
                      injection hb with hb
                      subst hb
                      have h12 := (HRW.out.blk_lt _ e).2
                      exact .inr ⟨e, hs6, h12⟩
                  · rcases List.mem_append.1 hp with hp | hp
                    · exact (HR6.out.uns.rb p hp).of_block (by omega) fun h0 b hb _ => hS12 b (HR6.out.uns.dat p hp h0 b hb)
                    · rw [List.mem_singleton] at hp
                      subst hp
                      have := (HO11.out.of_block fun b hb => hgk b (hAg b hb)).rb
                      rw [HE8.out] at this
                      exact this
                  · rcases List.mem_append.1 hp with hp | hp
                    · exact .inl (HR6.out.uns.dat p hp h0 b hb)
                    · rw [List.mem_singleton] at hp
                      subst hp
                      exact .inr hb
                  · rcases List.mem_append.1 hp with hp | hp
                    · exact HR6.out.uns.cap p hp
                    · rw [List.mem_singleton] at hp
                      subst hp
                      have := HO11.out.cap.1
                      rw [HE8.out] at this
                      exact this
                  · show L.map FRow.val = (burnD D).sure; exact HR6.out.vs
                  · show _ = D.unsure ++ [_]
                    rw [List.map_append, HR6.out.vu, burnD_unsure]
                    rfl
                  · show Rising (burnD D).sure; exact HR6.out.ris
                  · exact HOK.out.changed hcok
                  · rcases h1 with h1 | h1
                    · rcases h2 with h2 | h2
                      · exact HR6.out.dis b h1 h2
                      · have := HR.out.bnd b (.inr h1)
                        omega
                    · have := HAB.out b h1
                      rcases h2 with h2 | h2
                      · have := HR.out.bnd b (.inl h2); omega
                      · omega
                  · rw [hsz]
                    rcases hb with (hb | hb) | (hb | hb)
                    · have := HR6.out.bnd b (.inl hb); omega
                    · exact hb.2.2
                    · have := HR6.out.bnd b (.inr hb); omega
                    · have := HAB.out b hb; omega
                · rcases hb with hb | hb
                  · exact .inl hb
                  · have := hb.2.1; have := HWS.out; exact .inr ⟨by omega, by rw [hsz]; exact hb.2.2⟩
                · rcases hb with hb | hb
                  · exact .inl hb
                  · have := HAB.out b hb; exact .inr ⟨by omega, by rw [hsz]; omega⟩)
              clear HR6 HM6 HO6 HM11 HO11 HS11 HYS HYL HRW HBB HG2 HAB HWS HSZ9 HXN HBND HE8
              go_wp2_with fail
              go_ret
              exact HF.out
            · rw [hbd, if_pos rfl] at hG
              have HF : Hid (RDone M S w g cD.2 (.int .i64 cD.1) (.returned (.int .i64 11)) w7) := Lib.hid (by
                rw [hG]
                exact ⟨rfl, ⟨M, S, ⟨A, c, L, B, cu, U, H7.out⟩, fun b hb => .inl hb, fun b hb => .inl hb⟩, HM7.out⟩)
              clear HR HR6 hx6 hB6 H7 h7 hm7 HM7 hG HG BN hx7 hbd
              go_wp2_with fail
              go_ret
              exact HF.out
        · have HG := Lib.hid (HGOOD.out (fun h => hg1 h.1))
          clear HFULL HGOOD
          have BN := Lib.hid (refBurns HR6.out HD.out)
          go_wp2_with fail
          refine BN.out.mono ?_
          rintro e w7 ⟨rfl, h7, hm7⟩
          have hx7 : Blk w7 xb 73 #[.int .i64 kind, .string ⟨name.toArray⟩, .int .i64 (off : Int), .slice Y data.length cy] := hx6.mods hm7 (by rintro rfl; exact (h7.blk.lt |> fun _ => cells_ne HR6.out.blk hx6 (by decide)) rfl)
          have HM7 : Hid (Mods M w w7) := Lib.hid ((Mods.of_below hB6).then (hm7.mono fun b _ hb => by subst hb; exact hmg))
          have hxl : w.heap.size ≤ xb := by rw [HXB.out]; exact Nat.le_refl _
          have H7 := Lib.hid h7
          obtain ⟨hcok, hG⟩ := HG.out
          cases hbd : (burnD D).down
          · rw [hbd, if_neg (by simp)] at hG
            have HG2 := Lib.hid hG
            have HY7 := Lib.hid ((HYY.out.below hB6).mods hm7 (fun h0 b hb e => by subst e; exact HYM.out h0 _ hb hmg))
            clear h7 hm7 hG BN HR6 HG hx6 hB6
            have z3 := hx7.cell 3 rfl
            have q3 := hx7.free 3
            have hba : Below w7.heap.size w7 (w7.alloc (.cells #[] 5)) := (Below.refl _ _).alloc (Nat.le_refl _) _
            have HOE := Lib.hid (OB.made0 w7 (Nat.le_refl w7.heap.size))
            have HYa := Lib.hid (HY7.out.below hba)
            have hxa := hx7.kept hba
            have HRa := Lib.hid (H7.out.below hba)
            have HMa := Lib.hid (HM7.out.below hba)
            have HXLT := Lib.hid hx7.lt
            have z3a := hxa.cell 3 rfl
            have hbal : w7.heap.size ≤ (w7.alloc (.cells #[] 5)).heap.size := hba.size
            have hglt := H7.out.blk.lt
            have HBD := Lib.hid hbd
            clear hbd hba HY7 hx7
            go_wp2_with (at_builtin; refine wp_appendB _ rfl (.tmp 66) (.tmp 68) rfl w7.heap.size (some ⟨w7.heap.size, 0, none⟩) Y 0 cy [] data rfl rfl HOE.out HYa.out (by simp; omega) hbal ?_; intro d8 A8 c8 w8 hd8 hd81 hd82 ho8 hg8; have hx8 := hxa.grown hg8 (fun e => by injection e with e; have := HXLT.out; simp at e; omega); have z8 := hx8.cell 3 rfl; have q8 := hx8.free 3)
            have HE8 : Hid (d8 = data) := Lib.hid (by simpa using hd8.out)
            have hb8 : Below w7.heap.size w7 w8 := ((Below.refl w7.heap.size w7).alloc (Nat.le_refl _) _).grown hg8 (by simp) (fun b hb => by injection hb with hb; simp at hb; omega)
            have hx9 : Blk (w8.setCell ⟨xb, 3, none⟩ (.slice A8 d8.length c8)) xb 73 #[.int .i64 kind, .string ⟨name.toArray⟩, .int .i64 (off : Int), .slice A8 d8.length c8] := hx8.setCell 3 _
            have hm9 : Mods (fun b => b = xb) w7 (w8.setCell ⟨xb, 3, none⟩ (.slice A8 d8.length c8)) := Mods.setCell (S := fun b => b = xb) (Mods.of_below hb8) ⟨xb, 3, none⟩ (.inl rfl) _
            have HBND := Lib.hid H7.out.bnd
            have HXN : Hid (∀ b, M b ∨ S b → b ≠ xb) := Lib.hid fun b hb e => by have := HBNDW.out b hb; have := HXB.out; omega
            have HR9 := Lib.hid (H7.out.mods hm9 (fun b _ hb => HXN.out b hb))
            have HM9 : Hid (Mods M w (w8.setCell ⟨xb, 3, none⟩ (.slice A8 d8.length c8))) := Lib.hid ((HM7.out.below hb8).setCell _ (.inr (by rw [HXB.out]; exact Nat.le_refl _)) _)
            have HO9 := Lib.hid (ho8.of_block (w' := w8.setCell ⟨xb, 3, none⟩ (.slice A8 d8.length c8)) (fun b hb => Below.heap_setCell _ _ _ b (by rintro rfl; exact ho8.ne_var hx8 (by decide) hb)))
            have HAB : Hid (∀ b, A8.map (·.block) = some b → w7.heap.size ≤ b ∧ b < w8.heap.size) := Lib.hid ho8.blk_lt
            have HWS : Hid (w.heap.size ≤ w7.heap.size) := Lib.hid HM7.out.size
            have HW78 : Hid (w7.heap.size ≤ w8.heap.size) := Lib.hid hb8.size
            have HSZ9 : Hid ((w8.setCell ⟨xb, 3, none⟩ (.slice A8 d8.length c8)).heap.size = w8.heap.size) := Lib.hid (by simp)
            have hdl8 : d8.length ≤ 140737488355328 := by simp at hd81; omega
            clear hd8 hd81 hd82 ho8 hg8 hx8 z8 q8 hxa z3 q3 z3a HOE HYa HRa HMa HXLT hbal hb8 hm9 HM7 H7
            generalize w8.setCell ⟨xb, 3, none⟩ (.slice A8 d8.length c8) = w9 at *
            refine wp_region_planE_gen (by kernel_rfl) [(0, none), (1, none), (2, none), (3, none), (4, none), (5, none), (6, some [5]), (7, some [4]), (8, none), (9, none), (10, some [0, 1, 2, 3, 4, 5, 9])] (by kernel_rfl) (by kernel_rfl) (by decide) ?_
            intro wq hwq
            have hbq : Below w9.heap.size w9 wq := by rw [hwq]; exact (Below.refl _ _).drew
            have HRq := Lib.hid (HR9.out.below hbq)
            have HMq := Lib.hid (HM9.out.below hbq)
            have HOq := Lib.hid (HO9.out.below hbq)
            have hsq : w8.heap.size ≤ wq.heap.size := by rw [← HSZ9.out]; exact hbq.size
            have hxq := hx9.kept hbq
            have y0 := hxq.cell 0 rfl
            have y1 := hxq.cell 1 rfl
            have y2 := hxq.cell 2 rfl
            have y3 := hxq.cell 3 rfl
            have c1 := HRq.out.blk.cell 1 rfl
            clear hwq hbq HR9 HM9 HO9 hx9
            iterate 4 (refine planE_pure (v := ?_) rfl (by rfl) (fun w' => ?_) ?_; rotate_left; (focus (simp only [List.getElem_toArray, List.getElem_cons_succ, List.getElem_cons_zero]; go_simp; first | with_reducible rfl | (simp (disch := omega) only [if_pos, if_neg, dif_pos, Result.andThen_ok]; try with_reducible rfl) | skip)); try simp only [List.getElem_toArray, List.getElem_cons_succ, List.getElem_cons_zero, Act.put, List.setIfInBounds_toArray, List.set_cons_zero, List.set_cons_succ])
            refine planE_cells (v := ?_) [(⟨g, 1, none⟩, .slice B U.length cu)] (by simp; and_intros <;> assumption) rfl (by rfl) (fun w' hw' => ?_) ?_; rotate_left; (focus (simp only [List.forall_mem_cons, List.not_mem_nil, false_imp_iff, implies_true, and_true] at hw'; simp only [List.getElem_toArray, List.getElem_cons_succ, List.getElem_cons_zero]; go_simp; first | with_reducible rfl | (simp (disch := omega) only [if_pos, if_neg, dif_pos, Result.andThen_ok]; try with_reducible rfl) | skip)); try simp only [List.getElem_toArray, List.getElem_cons_succ, List.getElem_cons_zero, Act.put, List.setIfInBounds_toArray, List.set_cons_zero, List.set_cons_succ]
            refine planE_cells (v := ?_) [(⟨xb, 0, none⟩, .int .i64 kind), (⟨xb, 1, none⟩, .string ⟨name.toArray⟩), (⟨xb, 2, none⟩, .int .i64 (off : Int)), (⟨xb, 3, none⟩, .slice A8 d8.length c8)] (by simp; and_intros <;> assumption) rfl (by rfl) (fun w' hw' => ?_) ?_; rotate_left; (focus (simp only [List.forall_mem_cons, List.not_mem_nil, false_imp_iff, implies_true, and_true] at hw'; simp only [List.getElem_toArray, List.getElem_cons_succ, List.getElem_cons_zero]; go_simp; first | with_reducible rfl | (simp (disch := omega) only [if_pos, if_neg, dif_pos, Result.andThen_ok]; try with_reducible rfl) | skip)); try simp only [List.getElem_toArray, List.getElem_cons_succ, List.getElem_cons_zero, Act.put, List.setIfInBounds_toArray, List.set_cons_zero, List.set_cons_succ]
            refine planE_eff rfl (by rfl) (fun K hK => ?_)
            go_simp
            have hb2 : Below wq.heap.size wq (wq.alloc (.cells #[.int .i64 kind, .string ⟨name.toArray⟩, .int .i64 (off : Int), .slice A8 d8.length c8] 73)) := (Below.refl _ _).alloc (Nat.le_refl _) _
            have hL6 := Blk.new wq #[.int .i64 kind, .string ⟨name.toArray⟩, .int .i64 (off : Int), .slice A8 d8.length c8] 73
            have HR6 := Lib.hid (HRq.out.below hb2)
            have HM6 := Lib.hid (HMq.out.below hb2)
            have HO6 := Lib.hid (HOq.out.below hb2)
            have hs6 : w8.heap.size ≤ (wq.alloc (.cells #[.int .i64 kind, .string ⟨name.toArray⟩, .int .i64 (off : Int), .slice A8 d8.length c8] 73)).heap.size := Nat.le_trans hsq hb2.size
            have hw8 : w7.heap.size ≤ w8.heap.size := HW78.out
            have hxs := hxq.kept hb2
            obtain ⟨lb, hlb⟩ : ∃ lb, lb = wq.heap.size := ⟨_, rfl⟩
            rw [← hlb] at hL6 ⊢
            generalize wq.alloc (.cells #[.int .i64 kind, .string ⟨name.toArray⟩, .int .i64 (off : Int), .slice A8 d8.length c8] 73) = w10 at *
            clear y0 y1 y2 y3 c1 hb2 hlb HRq HMq HOq hxq hsq
            have y0 := hxs.cell 0 rfl
            have y1 := hxs.cell 1 rfl
            have y2 := hxs.cell 2 rfl
            have y3 := hxs.cell 3 rfl
            have c1 := HR6.out.blk.cell 1 rfl
            refine hK _ _ (by simp [owed, left] <;> (and_intros <;> first | trivial | assumption)) ?_
            clear hK K
            try simp only [List.getElem_toArray, List.getElem_cons_succ, List.getElem_cons_zero, Act.put, List.setIfInBounds_toArray, List.set_cons_zero, List.set_cons_succ]
            refine planE_eff rfl (by rfl) (fun K hK => ?_)
            obtain ⟨i0, hi0, hz0, hz1, hz2⟩ := info_parts write_info
            have hul : U.length ≤ 1000000 := by have := HR6.out.lens.2; rw [burnD_unsure] at this; unfold DSt.cnt at hcnt; omega
            refine op_appendS w10 (.tmp 75) (.tmp 77) 40 73 (by rfl) Tryd.underlying40 hi0 hz0 hz1 hz2 rfl (by decide) 0 B (some ⟨lb, 0, none⟩) cu 1 (U.map wrRow) [[.int .i64 kind, .string ⟨name.toArray⟩, .int .i64 (off : Int), .slice A8 d8.length c8]] (by simp; rfl) (by rfl) HR6.out.uns.row (RS.lit hL6) (by simp) (by simp [Value.oneCell']) (by simp; omega) (by simp; omega) (Nat.zero_le _) ?_
            intro ys B' cu' w11 hys hy1 hy2 hrow hg11 hB'
            have hm11 : Mods M w10 w11 := .of_grown hg11 fun k hk => HR6.out.uns.own k hk
            have HM11 := Lib.hid (HM6.out.then hm11)
            have hk11 := HR6.out.blk.grown hg11 (HR6.out.uns.row.ne_var HR6.out.blk (by decide))
            have HO11 := Lib.hid (HO6.out.grown_row hg11 (HO6.out.ne_row HR6.out.uns.row (by decide)))
            have HS11 : Hid (∀ b, S b → w11.heap[b]? = w10.heap[b]?) := Lib.hid fun b hb => hg11.block b (HR6.out.bnd b (.inr hb)) (fun e => HR6.out.dis b hb (HR6.out.uns.own b e.symm))
            have hs11 := hg11.size
            have hys' := hys.out
            have HYS : Hid (ys = (U ++ [((⟨kind, name, off, data⟩, A8, c8) : Wr × Option Addr × Nat)]).map wrRow) := Lib.hid (by rw [hys', HE8.out, List.map_append]; rfl)
            have HYL : Hid (ys.length = (U ++ [((⟨kind, name, off, data⟩, A8, c8) : Wr × Option Addr × Nat)]).length) := Lib.hid (by rw [HYS.out, List.length_map])
            have HRW := Lib.hid hrow
            have HBB := Lib.hid hB'
            clear y0 y1 y2 y3 c1 hL6 hys hys' hy1 hy2 hrow hg11 hB' hm11 hxs
            have c1 := hk11.cell 1 rfl
            have f1 := hk11.free 1
            refine hK _ _ (by simp [owed, left] <;> (and_intros <;> first | trivial | assumption)) ?_
            clear hK K
            try simp only [List.getElem_toArray, List.getElem_cons_succ, List.getElem_cons_zero, Act.put, List.setIfInBounds_toArray, List.set_cons_zero, List.set_cons_succ]
            iterate 2 (refine planE_pure (v := ?_) rfl (by rfl) (fun w' => ?_) ?_; rotate_left; (focus (simp only [List.getElem_toArray, List.getElem_cons_succ, List.getElem_cons_zero]; go_simp; first | with_reducible rfl | (simp (disch := omega) only [if_pos, if_neg, dif_pos, Result.andThen_ok]; try with_reducible rfl) | skip)); try simp only [List.getElem_toArray, List.getElem_cons_succ, List.getElem_cons_zero, Act.put, List.setIfInBounds_toArray, List.set_cons_zero, List.set_cons_succ])
            refine planE_eff rfl (by rfl) (fun K hK => ?_)
            go_simp
            skip
            refine hK _ _ (by simp [owed, left] <;> (and_intros <;> first | trivial | assumption)) ?_
            clear hK K
            try simp only [List.getElem_toArray, List.getElem_cons_succ, List.getElem_cons_zero, Act.put, List.setIfInBounds_toArray, List.set_cons_zero, List.set_cons_succ]
            refine planE_end ?_
            have HF : Hid (RDone M S w g cD.2 (.int .i64 cD.1) (.returned (.int .i64 0)) (w11.setCell ⟨g, 1, none⟩ (.slice B' ys.length cu'))) := Lib.hid (by
              rw [HG2.out]
              have hgk : ∀ b, b ≠ g → (w11.setCell ⟨g, 1, none⟩ (.slice B' ys.length cu')).heap[b]? = w11.heap[b]? := fun b hb => Below.heap_setCell _ _ _ b hb
              have hsz : (w11.setCell ⟨g, 1, none⟩ (.slice B' ys.length cu')).heap.size = w11.heap.size := by simp
              have hSg : ∀ b, S b → b ≠ g := fun b hb e => by subst e; exact HR6.out.dis _ hb hmg
              have hS12 : ∀ b, S b → (w11.setCell ⟨g, 1, none⟩ (.slice B' ys.length cu')).heap[b]? = w10.heap[b]? := fun b hb => (hgk b (hSg b hb)).trans (HS11.out b hb)
              have hBg : ∀ b, B'.map (·.block) = some b → b ≠ g := fun b hb e => by subst e; exact HRW.out.ne_var hk11 (by decide) hb
              have hAg : ∀ b, A8.map (·.block) = some b → b ≠ g := fun b hb e => by have := HAB.out b hb; omega
              have hs0 := HWS.out
              have h10 : w10.heap.size ≤ w11.heap.size := hs11
              refine ⟨rfl, ⟨fun b => M b ∨ (B'.map (·.block) = some b ∧ w8.heap.size ≤ b ∧ b < w11.heap.size), fun b => S b ∨ A8.map (·.block) = some b, ⟨A, c, L, B', cu', U ++ [(⟨kind, name, off, data⟩, A8, c8)], ?_⟩, fun b hb => ?_, fun b hb => ?_⟩, HM11.out.setCell _ (.inl hmg) _⟩
              · refine ⟨?_, (HR6.out.sure.of_blocks (by omega) fun b _ hb => hS12 b hb).mono fun b _ hb => .inl hb, ⟨?_, fun b hb => ?_, fun p hp => ?_, fun p hp h0 b hb => ?_, fun p hp => ?_⟩, .inl hmg, ?_, ?_, ?_, ?_, fun b h1 h2 => ?_, fun b hb => ?_⟩
                · have := hk11.setCell 1 (.slice B' ys.length cu')
                  rw [← HYL.out]
                  rw [HBD.out] at this
                  exact this
                · have := HRW.out
                  rw [HYS.out] at this
                  exact this.of_block fun b hb => hgk b (hBg b hb)
                · rcases HBB.out with e | e
                  · rw [e] at hb; exact .inl (HR6.out.uns.own b hb)
                  · rw [e] at hb
                    injection hb with hb
                    subst hb
                    have h12 := (HRW.out.blk_lt _ e).2
                    exact .inr ⟨e, hs6, h12⟩
                · rcases List.mem_append.1 hp with hp | hp
                  · exact (HR6.out.uns.rb p hp).of_block (by omega) fun h0 b hb _ => hS12 b (HR6.out.uns.dat p hp h0 b hb)
                  · rw [List.mem_singleton] at hp
                    subst hp
                    have := (HO11.out.of_block fun b hb => hgk b (hAg b hb)).rb
                    rw [HE8.out] at this
                    exact this
                · rcases List.mem_append.1 hp with hp | hp
                  · exact .inl (HR6.out.uns.dat p hp h0 b hb)
                  · rw [List.mem_singleton] at hp
                    subst hp
                    exact .inr hb
                · rcases List.mem_append.1 hp with hp | hp
                  · exact HR6.out.uns.cap p hp
                  · rw [List.mem_singleton] at hp
                    subst hp
                    have := HO11.out.cap.1
                    rw [HE8.out] at this
                    exact this
                · show L.map FRow.val = (burnD D).sure; exact HR6.out.vs
                · show _ = D.unsure ++ [_]
                  rw [List.map_append, HR6.out.vu, burnD_unsure]
                  rfl
                · show Rising (burnD D).sure; exact HR6.out.ris
                · exact HOK.out.changed hcok
                · rcases h1 with h1 | h1
                  · rcases h2 with h2 | h2
                    · exact HR6.out.dis b h1 h2
                    · have := HR.out.bnd b (.inr h1)
                      omega
                  · have := HAB.out b h1
                    rcases h2 with h2 | h2
                    · have := HR.out.bnd b (.inl h2); omega
                    · omega
                · rw [hsz]
                  rcases hb with (hb | hb) | (hb | hb)
                  · have := HR6.out.bnd b (.inl hb); omega
                  · exact hb.2.2
                  · have := HR6.out.bnd b (.inr hb); omega
                  · have := HAB.out b hb; omega
              · rcases hb with hb | hb
                · exact .inl hb
                · have := hb.2.1; have := HWS.out; exact .inr ⟨by omega, by rw [hsz]; exact hb.2.2⟩
              · rcases hb with hb | hb
                · exact .inl hb
                · have := HAB.out b hb; exact .inr ⟨by omega, by rw [hsz]; omega⟩)
            clear HR6 HM6 HO6 HM11 HO11 HS11 HYS HYL HRW HBB HG2 HAB HWS HSZ9 HXN HBND HE8
            go_wp2_with fail
            go_ret
            exact HF.out
          · rw [hbd, if_pos rfl] at hG
            have HF : Hid (RDone M S w g cD.2 (.int .i64 cD.1) (.returned (.int .i64 11)) w7) := Lib.hid (by
              rw [hG]
              exact ⟨rfl, ⟨M, S, ⟨A, c, L, B, cu, U, H7.out⟩, fun b hb => .inl hb, fun b hb => .inl hb⟩, HM7.out⟩)
            clear HR HR6 hx6 hB6 H7 h7 hm7 HM7 hG HG BN hx7 hbd
            go_wp2_with fail
            go_ret
            exact HF.out
      · have HF : Hid (RDone M S w g cD.2 (.int .i64 cD.1) (.returned (.int .i64 7)) w3) := Lib.hid (by
          rw [HMANY.out ⟨HNO.out, hk3, by have := HL2.out; omega⟩]
          exact HR.out.same HB3.out (.int .i64 7))
        clear HREST HMANY hat HFS HNO hk3 HR HDO HSB HO3 hx3 HDLEN HB3 HRIS HOK
        go_wp2_with fail
        go_ret
        exact HF.out
end
end Go.Proofs.YthdmnajcphaekaaDoor
