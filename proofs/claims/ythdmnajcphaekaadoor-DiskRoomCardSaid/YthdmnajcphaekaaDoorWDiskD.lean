/- The walk of DiskRoom (printed by gen_wdisk.py). -/
import Derived.Test.YthdmnajcphaekaaDoorGrown
import Derived.Test.YthdmnajcphaekaaDoorWDiskB
namespace Go.Proofs.YthdmnajcphaekaaDoor
open Go.RowKit

/-- What a change leaves: done, refused, or the end of a burn. -/
theorem changed (D : DSt) (c : Wr) (off : Int) (hr : Rising D.files) (hk : c.kind = 1 ∨ c.kind = 2 ∨ c.kind = 3) :
    ((changeD D c off).1 = 0 → fsize (changeD D c off).2.files ≤ fsize D.files ∨ (fsize (changeD D c off).2.files : Int) ≤ D.room) ∧
    ((changeD D c off).1 ≠ 0 → (changeD D c off).2.files = D.files ∧ (changeD D c off).2.down = decide ((changeD D c off).1 = 11)) := by
  by_cases hz : refuseD D c off = 0
  · cases hb : (burnD D).down
    · rw [changeD_eq0 D c off hz hb]
      refine ⟨fun _ => ?_, fun h => absurd rfl h⟩
      have e : ({ burnD D with unsure := D.unsure ++ [c] } : DSt).files = doF D.files c := by
        show (D.unsure ++ [c]).foldl doF (burnD D).sure = _
        rw [burnD_sure, List.foldl_append]
        rfl
      rw [e]
      have hs := fsize_do D.files hr c hk
      have hn : ¬ (((fget D.files c.name).getD []).length < afterN ((fget D.files c.name).getD []).length c ∧ D.room < (fsize D.files : Int) + ((afterN ((fget D.files c.name).getD []).length c : Int) - ((fget D.files c.name).getD []).length)) := fun h => by
        unfold refuseD at hz
        split at hz
        · omega
        · split at hz
          · omega
          · split at hz
            · omega
            · first | omega | (rw [if_pos h] at hz; omega)
      generalize ((fget D.files c.name).getD []).length = a at *
      generalize afterN a c = b at *
      by_cases hab : a < b
      · exact .inr (by have : ¬ D.room < (fsize D.files : Int) + ((b : Int) - a) := fun h => hn ⟨hab, h⟩; omega)
      · exact .inl (by omega)
    · rw [changeD_burnt D c off hz hb]
      refine ⟨fun h => by simp at h, fun _ => ⟨burnD_files D, ?_⟩⟩
      show (burnD D).down = _
      rw [hb]
      rfl
  · rw [changeD_err D c off rfl hz]
    refine ⟨fun h => absurd h hz, fun _ => ⟨rfl, ?_⟩⟩
    show D.down = _
    cases hd : D.down
    · symm
      apply decide_eq_false
      unfold refuseD
      rw [if_neg (by rw [hd]; simp)]
      split
      · simp
      · split
        · simp
        · split <;> simp
    · rw [refuse_down hd]
      rfl

set_option maxRecDepth 20000 in
set_option maxHeartbeats 16000000 in
theorem walkDiskRoom (room : Int) (X : Option Addr) (c : Nat) (L0 : List (List Fv)) (a : AF) (w : World) (hroom : I64 room) (hX : RS w X 5 (L0.map (·.map Fv.val))) (hL : L0.length ≤ 9223372036854775807) (hR : ∀ r ∈ L0, rowOk w actK r) (ha : a.ok w) :
    Calls Tryd.prog 3 #[.int .i64 room, .slice X L0.length c, .agg a.cells.toArray] w fun e w' => e = .returned (.bool true) ∧ Below w.heap.size w w' := by
  obtain ⟨kind, name, n, Y, cy, data, mask⟩ := a
  unfold AF.cells
  simp only
  obtain ⟨L, hL', hacts⟩ := acts_of hX hR
  rw [← hL'] at hL ⊢
  have hal : Below w.heap.size w (w.alloc (.cells #[.int .i64 kind, .string ⟨name.toArray⟩, .int .i64 n, .slice Y data.length cy, .int .u64 (mask : Int)] 26)) := (Below.refl _ _).alloc (Nat.le_refl _) _
  have hx := Blk.new w #[.int .i64 kind, .string ⟨name.toArray⟩, .int .i64 n, .slice Y data.length cy, .int .u64 (mask : Int)] 26
  have hxl : w.heap.size < (w.alloc (.cells #[.int .i64 kind, .string ⟨name.toArray⟩, .int .i64 n, .slice Y data.length cy, .int .u64 (mask : Int)] 26)).heap.size := hx.lt
  have GR := Lib.hid (lawGrown room X c L _ (hacts.below hal) hL)
  have HOK := Lib.hid ha
  obtain ⟨xb, hxb⟩ : ∃ xb, xb = w.heap.size := ⟨_, rfl⟩
  have HXB := Lib.hid hxb
  have HAL := Lib.hid hal
  rw [← hxb] at hx hxl
  have HX := Lib.hid hx
  clear hX hR hL' hacts ha hal hx hxb
  go_enter Tryd.func3, Tryd.ntmps3
  go_wp2_with fail
  rw [← HXB.out]
  generalize w.alloc (.cells #[.int .i64 kind, .string ⟨name.toArray⟩, .int .i64 n, .slice Y data.length cy, .int .u64 (mask : Int)] 26) = w1 at *
  refine GR.out.mono ?_
  rintro e w2 ⟨d, g, T, M, S, D, rfl, hp, hn, hgd, hb2⟩
  have HG := Lib.hid hgd
  have hB2 := HAL.out.trans (hb2.mono HAL.out.size)
  have hs2 := hb2.size
  have HX2 := Lib.hid (HX.out.kept hb2)
  have HN2 := Lib.hid hn
  have HP2 := Lib.hid hp
  clear GR hp hn hgd hb2
  go_wp2_with fail
  refine (lawAnswers _).mono ?_
  rintro e w3 ⟨rfl, hb3⟩
  have hB3 := hB2.trans (hb3.mono hB2.size)
  have hs3 := hb3.size
  have HP3 := Lib.hid (HP2.out.below hb3)
  have hX3 := HX2.out.kept hb3
  have HX3 := Lib.hid hX3
  have x0 := hX3.cell 0 rfl
  have x1 := hX3.cell 1 rfl
  have x2 := hX3.cell 2 rfl
  have x3 := hX3.cell 3 rfl
  have x4 := hX3.cell 4 rfl
  have SM := Lib.hid (lawSmall ⟨kind, name, n, Y, cy, data, mask⟩ w3)
  clear hb3 hX3 HP2 HX2 hB2
  go_wp2_with fail
  refine SM.out.mono ?_
  rintro e w4 ⟨rfl, hb4⟩
  have hB4 := hB3.trans (hb4.mono hB3.size)
  have hs4 := hb4.size
  have HP4 := Lib.hid (HP3.out.below hb4)
  have HX4 := Lib.hid (HX3.out.kept hb4)
  have x0' := HX4.out.cell 0 rfl
  clear SM x0 x1 x2 x3 x4 hb4 HP3 HX3 hB3
  cases hsm : AF.small ⟨kind, name, n, Y, cy, data, mask⟩
  · clear hsm
    go_wp2_with fail
    refine (lawAnswers _).mono ?_
    rintro e w5 ⟨rfl, hb5⟩
    have hB5 := hB4.trans (hb5.mono hB4.size)
    clear hb5 hB4
    go_wp2_with fail
    go_ret
    exact ⟨rfl, hB5⟩
  clear hsm
  by_cases hk1 : kind < 1
  · go_wp2_with fail
    refine (lawAnswers _).mono ?_
    rintro e w5 ⟨rfl, hb5⟩
    have hB5 := hB4.trans (hb5.mono hB4.size)
    clear hb5 hB4
    go_wp2_with fail
    go_ret
    exact ⟨rfl, hB5⟩
  by_cases hk3 : 3 < kind
  · go_wp2_with fail
    refine (lawAnswers _).mono ?_
    rintro e w5 ⟨rfl, hb5⟩
    have hB5 := hB4.trans (hb5.mono hB4.size)
    clear hb5 hB4
    go_wp2_with fail
    go_ret
    exact ⟨rfl, hB5⟩
  have hcnt : D.cnt ≤ 1000000 := Nat.le_trans HG.out.1 (by omega)
  have US := Lib.hid (diskUsedC HP4.out.di hcnt)
  have hkind : kind = 1 ∨ kind = 2 ∨ kind = 3 := by omega
  go_wp2_with fail
  refine US.out.mono ?_
  rintro e w5 ⟨rfl, hb5⟩
  have hB5 := hB4.trans (hb5.mono hB4.size)
  have hs5' := hb5.size
  have HP5 := Lib.hid (HP4.out.below hb5)
  have HX5 := Lib.hid (HX4.out.kept hb5)
  obtain ⟨A, cc, Lr, B, cu, U, hr⟩ := HP5.out.ri
  have FL := Lib.hid (refFiles hr hcnt)
  clear US x0' hb5 HP4 HX4 hB4 hr
  go_wp2_with fail
  refine FL.out.mono ?_
  rintro e w6 ⟨A5, c5, L5, rfl, HV5, hO5, hb6⟩
  have hB6 := hB5.trans (hb6.mono hB5.size)
  have HO6 := Lib.hid hO5
  have HP6 := Lib.hid (HP5.out.below hb6)
  have HX6 := Lib.hid (HX5.out.kept hb6)
  have HTB : Hid (∀ b, T b → w1.heap.size ≤ b ∧ b < w5.heap.size) := Lib.hid fun b hb => ⟨(HN2.out b (.inl hb)).1, HP5.out.di.bnd b hb⟩
  have HTX : Hid (¬ T xb) := Lib.hid fun h => by have := (HTB.out xb h).1; omega
  have HMG : Hid (¬ T g) := Lib.hid fun h => by
    obtain ⟨A, cc, Lr, B, cu, U, hr⟩ := HP6.out.ri
    exact (HP6.out.ap g h).1 hr.mg
  have hl5 : L5.length ≤ 1000000 := by have := congrArg List.length HV5.out; rw [List.length_map] at this; have := DSt.files_len D; omega
  have HRIS0 := Lib.hid HP6.out.di.ris
  have HG2 : Hid (∃ cs, Blk w6 g 42 cs ∧ cs[2]? = some (.int .i64 D.room)) := Lib.hid (by
    obtain ⟨A, cc, Lr, B, cu, U, hr⟩ := HP6.out.ri
    exact ⟨_, hr.blk, rfl⟩)
  have hs1 : w.heap.size ≤ w1.heap.size := HAL.out.size
  have hs5 : w1.heap.size ≤ w5.heap.size := by omega
  have y0 := HX6.out.cell 0 rfl
  have y1 := HX6.out.cell 1 rfl
  have y2 := HX6.out.cell 2 rfl
  clear FL hO5 hb6 HP5 HX5 hB5 HN2
  have HGL : Hid (g < w6.heap.size) := Lib.hid (by obtain ⟨cs, h1, _⟩ := HG2.out; exact h1.lt)
  rcases hkind with rfl | rfl | rfl
  · go_wp2_with fail
    refine wp_region_planE_gen (by kernel_rfl) [(0, none), (1, none), (2, none), (3, none), (4, none), (6, none), (7, none), (5, some []), (8, some [7]), (9, some [0, 2, 4]), (10, none)] (by kernel_rfl) (by kernel_rfl) (by decide) ?_
    intro wq hwq
    have hbq : Below w6.heap.size w6 wq := by rw [hwq]; exact (Below.refl _ _).drew
    have hBq := hB6.trans (hbq.mono hB6.size)
    have HXq := Lib.hid (HX6.out.kept hbq)
    have HDq := Lib.hid (HP6.out.di.below hbq)
    have HOq := Lib.hid (HO6.out.below hbq)
    have HGq : Hid (∃ cs, Blk wq g 42 cs ∧ cs[2]? = some (.int .i64 D.room)) := Lib.hid (by obtain ⟨cs, h1, h2⟩ := HG2.out; exact ⟨cs, h1.kept hbq, h2⟩)
    have HYq := Lib.hid (HOK.out.rb.below hBq)
    clear y0 y1 y2
    have y1 := HXq.out.cell 1 rfl
    have y2 := HXq.out.cell 2 rfl
    have y3 := HXq.out.cell 3 rfl
    clear hwq
    iterate 2 (refine planE_pure (v := ?_) rfl (by rfl) (fun w' => ?_) ?_; rotate_left; (focus (simp only [List.getElem_toArray, List.getElem_cons_succ, List.getElem_cons_zero]; go_simp; first | with_reducible rfl | (simp (disch := omega) only [if_pos, if_neg, dif_pos, Result.andThen_ok]; try with_reducible rfl) | skip)); try simp only [List.getElem_toArray, List.getElem_cons_succ, List.getElem_cons_zero, Act.put, List.setIfInBounds_toArray, List.set_cons_zero, List.set_cons_succ])
    refine planE_cells (v := ?_) [(⟨xb, 1, none⟩, .string ⟨name.toArray⟩)] (by simp; and_intros <;> assumption) rfl (by rfl) (fun w' hw' => ?_) ?_; rotate_left; (focus (simp only [List.forall_mem_cons, List.not_mem_nil, false_imp_iff, implies_true, and_true] at hw'; simp only [List.getElem_toArray, List.getElem_cons_succ, List.getElem_cons_zero]; go_simp; first | with_reducible rfl | (simp (disch := omega) only [if_pos, if_neg, dif_pos, Result.andThen_ok]; try with_reducible rfl) | skip)); try simp only [List.getElem_toArray, List.getElem_cons_succ, List.getElem_cons_zero, Act.put, List.setIfInBounds_toArray, List.set_cons_zero, List.set_cons_succ]
    iterate 1 (refine planE_pure (v := ?_) rfl (by rfl) (fun w' => ?_) ?_; rotate_left; (focus (simp only [List.getElem_toArray, List.getElem_cons_succ, List.getElem_cons_zero]; go_simp; first | with_reducible rfl | (simp (disch := omega) only [if_pos, if_neg, dif_pos, Result.andThen_ok]; try with_reducible rfl) | skip)); try simp only [List.getElem_toArray, List.getElem_cons_succ, List.getElem_cons_zero, Act.put, List.setIfInBounds_toArray, List.set_cons_zero, List.set_cons_succ])
    refine planE_cells (v := ?_) [(⟨xb, 2, none⟩, .int .i64 n)] (by simp; and_intros <;> assumption) rfl (by rfl) (fun w' hw' => ?_) ?_; rotate_left; (focus (simp only [List.forall_mem_cons, List.not_mem_nil, false_imp_iff, implies_true, and_true] at hw'; simp only [List.getElem_toArray, List.getElem_cons_succ, List.getElem_cons_zero]; go_simp; first | with_reducible rfl | (simp (disch := omega) only [if_pos, if_neg, dif_pos, Result.andThen_ok]; try with_reducible rfl) | skip)); try simp only [List.getElem_toArray, List.getElem_cons_succ, List.getElem_cons_zero, Act.put, List.setIfInBounds_toArray, List.set_cons_zero, List.set_cons_succ]
    iterate 1 (refine planE_pure (v := ?_) rfl (by rfl) (fun w' => ?_) ?_; rotate_left; (focus (simp only [List.getElem_toArray, List.getElem_cons_succ, List.getElem_cons_zero]; go_simp; first | with_reducible rfl | (simp (disch := omega) only [if_pos, if_neg, dif_pos, Result.andThen_ok]; try with_reducible rfl) | skip)); try simp only [List.getElem_toArray, List.getElem_cons_succ, List.getElem_cons_zero, Act.put, List.setIfInBounds_toArray, List.set_cons_zero, List.set_cons_succ])
    refine planE_cells (v := ?_) [(⟨xb, 3, none⟩, .slice Y data.length cy)] (by simp; and_intros <;> assumption) rfl (by rfl) (fun w' hw' => ?_) ?_; rotate_left; (focus (simp only [List.forall_mem_cons, List.not_mem_nil, false_imp_iff, implies_true, and_true] at hw'; simp only [List.getElem_toArray, List.getElem_cons_succ, List.getElem_cons_zero]; go_simp; first | with_reducible rfl | (simp (disch := omega) only [if_pos, if_neg, dif_pos, Result.andThen_ok]; try with_reducible rfl) | skip)); try simp only [List.getElem_toArray, List.getElem_cons_succ, List.getElem_cons_zero, Act.put, List.setIfInBounds_toArray, List.set_cons_zero, List.set_cons_succ]
    refine planE_eff rfl (by rfl) (fun K hK => ?_)
    go_simp
    have hb2 : Below wq.heap.size wq (wq.alloc (.cells #[] 5)) := (Below.refl _ _).alloc (Nat.le_refl _) _
    have hO2 := OB.made0 wq (Nat.le_refl wq.heap.size)
    have hX2 := HXq.out.kept hb2
    have hBa := hbq.trans (hb2.mono hbq.size)
    have hYa := HYq.out.below hb2
    obtain ⟨eb, heb⟩ : ∃ eb, eb = wq.heap.size := ⟨_, rfl⟩
    have hse : w6.heap.size ≤ eb := by rw [heb]; exact hbq.size
    have hxe : xb < eb := by rw [heb]; exact HXq.out.lt
    have hes : eb ≤ (wq.alloc (.cells #[] 5)).heap.size := by rw [heb]; exact hb2.size
    rw [← heb] at hO2 ⊢
    generalize wq.alloc (.cells #[] 5) = wa at *
    clear y1 y2 y3 hb2 heb HXq hBq hbq HDq HOq HGq HYq
    have y1 := hX2.cell 1 rfl
    have y2 := hX2.cell 2 rfl
    have y3 := hX2.cell 3 rfl
    refine hK _ _ (by simp [owed, left] <;> (and_intros <;> first | trivial | assumption)) ?_
    clear hK K
    try simp only [List.getElem_toArray, List.getElem_cons_succ, List.getElem_cons_zero, Act.put, List.setIfInBounds_toArray, List.set_cons_zero, List.set_cons_succ]
    refine planE_eff rfl (by rfl) (fun K hK => ?_)
    refine op_appendB wa (.tmp 60) (.tmp 62) (by rfl) eb (some ⟨eb, 0, none⟩) Y 0 cy [] data (by rfl) (by rfl) hO2 hYa (by simp; have := HOK.out.len; simp only at this; omega) hes ?_
    intro d8 A8 c8 wb hd8 hd81 hd82 ho8 hg8
    have hBb := hBa.grown hg8 hBa.size (fun b hb => by simp [Value.ownBlock] at hb; omega)
    have hX3 := hX2.grown hg8 (fun e => by rw [own_blk] at e; injection e with e; simp at e; omega)
    have HE8 : Hid (d8 = data) := Lib.hid (by simpa using hd8.out)
    have HO8 := Lib.hid ho8
    have hdl8 : d8.length ≤ 140737488355328 := by simp at hd81; have := HOK.out.len; simp only at this; omega
    clear y1 y2 y3 hd8 hd81 hd82 ho8 hg8 hBa hO2 hX2 hes hYa
    have y1 := hX3.cell 1 rfl
    have y2 := hX3.cell 2 rfl
    have y3 := hX3.cell 3 rfl
    refine hK _ _ (by simp [owed, left] <;> (and_intros <;> first | trivial | assumption)) ?_
    clear hK K
    try simp only [List.getElem_toArray, List.getElem_cons_succ, List.getElem_cons_zero, Act.put, List.setIfInBounds_toArray, List.set_cons_zero, List.set_cons_succ]
    refine planE_eff rfl (by rfl) (fun K hK => ?_)
    go_simp
    refine (diskPutC name n d8 A8 c8 (HP6.out.di.below hBb) HO8.out.rb (fun _ b hb hT => by have := (HO8.out.blk_lt b hb).1; have := HP6.out.di.bnd b hT; omega) hcnt HOK.out.name HOK.out.n hdl8).mono ?_
    rintro e w8 ⟨rfl, hd8', hm8⟩
    have hmm : Mods T w6 w8 := (Mods.of_below hBb).then hm8
    have hX4 := hX3.mods hm8 HTX.out
    have HD8 := Lib.hid hd8'
    clear y1 y2 y3 hd8' hm8 hX3 HO8
    have y1 := hX4.cell 1 rfl
    have y2 := hX4.cell 2 rfl
    have y3 := hX4.cell 3 rfl
    refine hK _ _ (by simp [owed, left] <;> (and_intros <;> first | trivial | assumption)) ?_
    clear hK K
    try simp only [List.getElem_toArray, List.getElem_cons_succ, List.getElem_cons_zero, Act.put, List.setIfInBounds_toArray, List.set_cons_zero, List.set_cons_succ]
    iterate 1 (refine planE_pure (v := ?_) rfl (by rfl) (fun w' => ?_) ?_; rotate_left; (focus (simp only [List.getElem_toArray, List.getElem_cons_succ, List.getElem_cons_zero]; go_simp; first | with_reducible rfl | (simp (disch := omega) only [if_pos, if_neg, dif_pos, Result.andThen_ok]; try with_reducible rfl) | skip)); try simp only [List.getElem_toArray, List.getElem_cons_succ, List.getElem_cons_zero, Act.put, List.setIfInBounds_toArray, List.set_cons_zero, List.set_cons_succ])
    refine planE_end ?_
    rw [HE8.out] at HD8 ⊢
    clear y1 y2 y3 hX4 HE8
    obtain ⟨cw, HCW, HKW, HGW⟩ : ∃ cw : Wr, Hid (cw = ⟨1, name, n.toNat, data⟩) ∧ Hid (cw.kind = 1 ∨ cw.kind = 2 ∨ cw.kind = 3) ∧ True := ⟨_, Lib.hid rfl, Lib.hid (.inl rfl), trivial⟩
    rw [← HCW.out] at HD8 ⊢
    obtain ⟨code, hcode⟩ : ∃ code, code = (changeD D cw n).1 := ⟨_, rfl⟩
    obtain ⟨E, hE⟩ : ∃ E, E = (changeD D cw n).2 := ⟨_, rfl⟩
    have HCH := Lib.hid (changed D cw n HRIS0.out HKW.out)
    have HGE := Lib.hid (HG.out.change cw n)
    rw [← hcode, ← hE] at HCH
    rw [← hE] at HD8 HGE
    rw [← hcode]
    clear hcode hE
    obtain ⟨T8, HDI⟩ : ∃ T8, Hid (DI T8 w8 d E) := ⟨_, HD8⟩
    have hB8 : Below w.heap.size w w8 := Mods.old hB6 hmm hB6.size fun i _ hi => by have := (HTB.out i hi).1; omega
    have HO8 := Lib.hid (HO6.out.of_mods hmm fun b hb _ hT => by have := (HTB.out b hT).2; omega)
    have HR8 : Hid (w8.cell? ⟨g, 2, none⟩ = some (.int .i64 D.room)) := Lib.hid (by
      obtain ⟨cs, h1, h2⟩ := HG2.out
      exact (h1.mods hmm HMG.out).cell 2 h2)
    have hs8 := hmm.size
    have HGL : Hid (g < w8.heap.size) := Lib.hid (Nat.lt_of_lt_of_le HGL.out hs8)
    have hcE : E.cnt ≤ 1000000 := Nat.le_trans HGE.out.1 (by omega)
    have HNM := Lib.hid HGE.out.2
    clear HD8 hmm HP6 HO6 HX6 HG2 HMG HTX HTB hB6 HG HGE
    by_cases hz : code = 0
    · subst hz
      have hfit := HCH.out.1 rfl
      clear HCH
      have HUS := Lib.hid (fun w' (hb : Below w8.heap.size w8 w') => diskUsedC (HDI.out.below hb) hcE)
      generalize fsize D.files = fD at *
      generalize fsize E.files = fE at *
      by_cases hle : fE ≤ fD
      · have hdec : decide ((fE : Int) ≤ (fD : Int)) = true := decide_eq_true (by omega)
        go_wp2_with fail
        refine wp_region_planE_gen (by kernel_rfl) [(0, none), (2, none), (1, some [0]), (3, none), (4, none), (5, none), (6, none), (7, none), (8, none), (9, none), (10, none), (11, none), (12, none), (13, none)] (by kernel_rfl) (by kernel_rfl) (by decide) ?_
        intro wq hwq
        have hbq : Below w8.heap.size w8 wq := by rw [hwq]; exact (Below.refl _ _).drew
        clear hwq
        iterate 2 (refine planE_pure (v := ?_) rfl (by rfl) (fun w' => ?_) ?_; rotate_left; (focus (simp only [List.getElem_toArray, List.getElem_cons_succ, List.getElem_cons_zero]; go_simp; first | with_reducible rfl | (simp (disch := omega) only [if_pos, if_neg, dif_pos, Result.andThen_ok]; try with_reducible rfl) | skip)); try simp only [List.getElem_toArray, List.getElem_cons_succ, List.getElem_cons_zero, Act.put, List.setIfInBounds_toArray, List.set_cons_zero, List.set_cons_succ])
        refine planE_eff rfl (by rfl) (fun K hK => ?_)
        go_simp
        refine (HUS.out _ hbq).mono ?_
        rintro e w9 ⟨rfl, hb9⟩
        have hB9 := hB8.trans ((hbq.trans (hb9.mono hbq.size)).mono hB8.size)
        refine hK _ _ (by simp [owed, left] <;> (and_intros <;> first | trivial | assumption)) ?_
        clear hK K
        try simp only [List.getElem_toArray, List.getElem_cons_succ, List.getElem_cons_zero, Act.put, List.setIfInBounds_toArray, List.set_cons_zero, List.set_cons_succ]
        iterate 2 (refine planE_pure (v := ?_) rfl (by rfl) (fun w' => ?_) ?_; rotate_left; (focus (simp only [List.getElem_toArray, List.getElem_cons_succ, List.getElem_cons_zero]; go_simp; first | with_reducible rfl | (simp (disch := omega) only [if_pos, if_neg, dif_pos, Result.andThen_ok]; try with_reducible rfl) | skip)); try simp only [List.getElem_toArray, List.getElem_cons_succ, List.getElem_cons_zero, Act.put, List.setIfInBounds_toArray, List.set_cons_zero, List.set_cons_succ])
        refine planE_skip rfl (by rfl) ?_
        try simp only [List.getElem_toArray, List.getElem_cons_succ, List.getElem_cons_zero, Act.put, List.setIfInBounds_toArray, List.set_cons_zero, List.set_cons_succ]
        refine planE_skip rfl (by rfl) ?_
        try simp only [List.getElem_toArray, List.getElem_cons_succ, List.getElem_cons_zero, Act.put, List.setIfInBounds_toArray, List.set_cons_zero, List.set_cons_succ]
        refine planE_skip rfl (by rfl) ?_
        try simp only [List.getElem_toArray, List.getElem_cons_succ, List.getElem_cons_zero, Act.put, List.setIfInBounds_toArray, List.set_cons_zero, List.set_cons_succ]
        refine planE_skip rfl (by rfl) ?_
        try simp only [List.getElem_toArray, List.getElem_cons_succ, List.getElem_cons_zero, Act.put, List.setIfInBounds_toArray, List.set_cons_zero, List.set_cons_succ]
        refine planE_skip rfl (by rfl) ?_
        try simp only [List.getElem_toArray, List.getElem_cons_succ, List.getElem_cons_zero, Act.put, List.setIfInBounds_toArray, List.set_cons_zero, List.set_cons_succ]
        refine planE_skip rfl (by rfl) ?_
        try simp only [List.getElem_toArray, List.getElem_cons_succ, List.getElem_cons_zero, Act.put, List.setIfInBounds_toArray, List.set_cons_zero, List.set_cons_succ]
        refine planE_skip rfl (by rfl) ?_
        try simp only [List.getElem_toArray, List.getElem_cons_succ, List.getElem_cons_zero, Act.put, List.setIfInBounds_toArray, List.set_cons_zero, List.set_cons_succ]
        iterate 2 (refine planE_pure (v := ?_) rfl (by rfl) (fun w' => ?_) ?_; rotate_left; (focus (simp only [List.getElem_toArray, List.getElem_cons_succ, List.getElem_cons_zero]; go_simp; first | with_reducible rfl | (simp (disch := omega) only [if_pos, if_neg, dif_pos, Result.andThen_ok]; try with_reducible rfl) | skip)); try simp only [List.getElem_toArray, List.getElem_cons_succ, List.getElem_cons_zero, Act.put, List.setIfInBounds_toArray, List.set_cons_zero, List.set_cons_succ])
        refine planE_end ?_
        go_wp2_with fail
        go_ret
        exact ⟨rfl, hB9⟩
      · have hdec : decide ((fE : Int) ≤ (fD : Int)) = false := decide_eq_false (by omega)
        have hfr : (fE : Int) ≤ D.room := by rcases hfit with h | h <;> omega
        generalize D.room = rm at *
        have hdec2 : decide ((fE : Int) ≤ rm) = true := decide_eq_true hfr
        go_wp2_with fail
        refine wp_region_planE_gen (by kernel_rfl) [(0, none), (2, none), (1, some [0]), (3, none), (4, none), (5, none), (7, none), (8, none), (9, none), (10, none), (6, some [4, 5]), (11, none), (12, none), (13, none)] (by kernel_rfl) (by kernel_rfl) (by decide) ?_
        intro wq hwq
        have hbq : Below w8.heap.size w8 wq := by rw [hwq]; exact (Below.refl _ _).drew
        have hgl : g < w8.heap.size := HGL.out
        have g2 := (hbq.cell (p := ⟨g, 2, none⟩) hgl).trans HR8.out
        clear hwq
        iterate 2 (refine planE_pure (v := ?_) rfl (by rfl) (fun w' => ?_) ?_; rotate_left; (focus (simp only [List.getElem_toArray, List.getElem_cons_succ, List.getElem_cons_zero]; go_simp; first | with_reducible rfl | (simp (disch := omega) only [if_pos, if_neg, dif_pos, Result.andThen_ok]; try with_reducible rfl) | skip)); try simp only [List.getElem_toArray, List.getElem_cons_succ, List.getElem_cons_zero, Act.put, List.setIfInBounds_toArray, List.set_cons_zero, List.set_cons_succ])
        refine planE_eff rfl (by rfl) (fun K hK => ?_)
        go_simp
        refine (HUS.out _ hbq).mono ?_
        rintro e w9 ⟨rfl, hb9⟩
        have hbq9 := hbq.trans (hb9.mono hbq.size)
        clear g2
        have g2 := (hbq9.cell (p := ⟨g, 2, none⟩) hgl).trans HR8.out
        refine hK _ _ (by simp [owed, left] <;> (and_intros <;> first | trivial | assumption)) ?_
        clear hK K
        try simp only [List.getElem_toArray, List.getElem_cons_succ, List.getElem_cons_zero, Act.put, List.setIfInBounds_toArray, List.set_cons_zero, List.set_cons_succ]
        iterate 6 (refine planE_pure (v := ?_) rfl (by rfl) (fun w' => ?_) ?_; rotate_left; (focus (simp only [List.getElem_toArray, List.getElem_cons_succ, List.getElem_cons_zero]; go_simp; first | with_reducible rfl | (simp (disch := omega) only [if_pos, if_neg, dif_pos, Result.andThen_ok]; try with_reducible rfl) | skip)); try simp only [List.getElem_toArray, List.getElem_cons_succ, List.getElem_cons_zero, Act.put, List.setIfInBounds_toArray, List.set_cons_zero, List.set_cons_succ])
        refine planE_cells (v := ?_) [(⟨g, 2, none⟩, .int .i64 rm)] (by simp; and_intros <;> assumption) rfl (by rfl) (fun w' hw' => ?_) ?_; rotate_left; (focus (simp only [List.forall_mem_cons, List.not_mem_nil, false_imp_iff, implies_true, and_true] at hw'; simp only [List.getElem_toArray, List.getElem_cons_succ, List.getElem_cons_zero]; go_simp; first | with_reducible rfl | (simp (disch := omega) only [if_pos, if_neg, dif_pos, Result.andThen_ok]; try with_reducible rfl) | skip)); try simp only [List.getElem_toArray, List.getElem_cons_succ, List.getElem_cons_zero, Act.put, List.setIfInBounds_toArray, List.set_cons_zero, List.set_cons_succ]
        refine planE_eff rfl (by rfl) (fun K hK => ?_)
        go_simp
        refine (HUS.out _ hbq9).mono ?_
        rintro e w10 ⟨rfl, hb10⟩
        have hbq10 := hbq9.trans (hb10.mono hbq9.size)
        have hB10 := hB8.trans (hbq10.mono hB8.size)
        clear g2
        have g2 := (hbq10.cell (p := ⟨g, 2, none⟩) hgl).trans HR8.out
        refine hK _ _ (by simp [owed, left] <;> (and_intros <;> first | trivial | assumption)) ?_
        clear hK K
        try simp only [List.getElem_toArray, List.getElem_cons_succ, List.getElem_cons_zero, Act.put, List.setIfInBounds_toArray, List.set_cons_zero, List.set_cons_succ]
        iterate 3 (refine planE_pure (v := ?_) rfl (by rfl) (fun w' => ?_) ?_; rotate_left; (focus (simp only [List.getElem_toArray, List.getElem_cons_succ, List.getElem_cons_zero]; go_simp; first | with_reducible rfl | (simp (disch := omega) only [if_pos, if_neg, dif_pos, Result.andThen_ok]; try with_reducible rfl) | skip)); try simp only [List.getElem_toArray, List.getElem_cons_succ, List.getElem_cons_zero, Act.put, List.setIfInBounds_toArray, List.set_cons_zero, List.set_cons_succ])
        refine planE_end ?_
        go_wp2_with fail
        go_ret
        exact ⟨rfl, hB10⟩
    · obtain ⟨hff, hdd⟩ := HCH.out.2 hz
      clear HCH
      have HUS := Lib.hid (diskUsedC HDI.out hcE)
      have HDC := Lib.hid (fun w' (hb : Below w8.heap.size w8 w') => diskDownC (HDI.out.below hb))
      have HV5 : Hid (L5.map FRow.val = E.files) := Lib.hid (by rw [HV5.out, hff])
      have HFF : Hid (E.files = D.files) := Lib.hid hff
      rw [hff] at HUS
      have HRIS := Lib.hid HDI.out.ris
      generalize fsize D.files = fD at *
      by_cases h11 : code = 11
      · have hde : E.down = true := by rw [hdd, h11]; rfl
        subst h11
        rw [hde] at HDC
        clear hdd hff HFF hde
        go_wp2_with fail
        refine HUS.out.mono ?_
        rintro e w9 ⟨rfl, hb9⟩
        have hB9 := hB8.trans (hb9.mono hB8.size)
        have DC2 := Lib.hid (fun w' (hb : Below w9.heap.size w9 w') => HDC.out w' (hb9.trans (hb.mono hb9.size)))
        clear HUS
        go_wp2_with fail
        refine (HDC.out _ hb9).mono ?_
        rintro e w9' ⟨rfl, rfl⟩
        clear hb9 HDC
        go_wp2_with fail
        go_loopw [12] (fun sk wr => sk = .int .i64 (0 : Int) ∧ w9 = wr) (fun _ _ => 0)
        case atStart => exact ⟨rfl, rfl⟩
        case round =>
          obtain ⟨rfl, rfl⟩ := hrel
          by_cases h0 : 0 < L5.length
          · go_wp2_with fail
            refine (DC2.out _ (Below.refl _ _)).mono ?_
            rintro e w9' ⟨rfl, rfl⟩
            go_wp2_with fail
            go_ret
            exact ⟨rfl, hB9⟩
          · go_wp2_with fail
            go_ret
            exact ⟨rfl, hB9⟩
      · have hde : E.down = false := by rw [hdd]; exact decide_eq_false h11
        rw [hde] at HDC
        have HDN := Lib.hid hde
        have hcb : (code == 11) = false := by simpa using h11
        clear hdd hff HFF hde
        go_wp2_with fail
        refine HUS.out.mono ?_
        rintro e w9 ⟨rfl, hb9⟩
        have hB9 := hB8.trans (hb9.mono hB8.size)
        have HDI := Lib.hid (HDI.out.below hb9)
        have HO5 := Lib.hid (HO8.out.below hb9)
        have DC2 := Lib.hid (fun w' (hb : Below w9.heap.size w9 w') => HDC.out w' (hb9.trans (hb.mono hb9.size)))
        clear HUS
        go_wp2_with fail
        refine (HDC.out _ hb9).mono ?_
        rintro e w9' ⟨rfl, rfl⟩
        clear hb9 HDC
        go_wp2_with fail
        go_loopw [12] (fun sk wr => ∃ k : Nat, k ≤ L5.length ∧ sk = .int .i64 (k : Int) ∧ Below w9.heap.size w9 wr) (fun sk _ => L5.length - (intOf sk).toNat)
        case atStart => exact ⟨0, Nat.zero_le _, rfl, Below.refl _ _⟩
        case round =>
          obtain ⟨k, hk, rfl, hB⟩ := hrel
          by_cases hlt : k < L5.length
          · have hFO := HO5.out.below hB
            obtain ⟨bf, fo, hA5, hbf, f0, f1⟩ := hFO.rd.row hlt
            have HDF := Lib.hid (hFO.dat _ (List.getElem_mem hlt)).rb
            have hmf : L5[k].val ∈ (E).files := by rw [← HV5.out]; exact List.mem_map.2 ⟨_, List.getElem_mem hlt, rfl⟩
            obtain ⟨hre, hrb⟩ := readBack HDN.out HNM.out HRIS.out hmf
            have hre : readE (E) L5[k].name = 0 := hre
            have hrb : readB (E) L5[k].name = L5[k].data := hrb
            have hno : nameOk L5[k].name = true := HNM.out.files _ hmf
            have RD := Lib.hid (diskReadC L5[k].name (HDI.out.below hB) (by have := nameOk_len hno; omega))
            unfold ReadEnd at RD
            rw [hre, hrb] at RD
            generalize L5[k].name = nm at *
            generalize L5[k].data = dat at *
            generalize L5[k].A = fA at *
            generalize L5[k].c = fc at *
            subst hA5
            have hlt1 : k + 1 ≤ L5.length := hlt
            have HF1 := Lib.hid f1
            clear hFO hmf hno hre hrb f1
            go_wp2_with fail
            refine (DC2.out _ hB).mono ?_
            rintro e w9' ⟨rfl, rfl⟩
            go_wp2_with fail
            refine RD.out.mono ?_
            rintro e w6 ⟨A8, c8, rfl, ho8, hb8⟩
            have hbf6 := Nat.lt_of_lt_of_le hbf hb8.size
            have hB6 := hB.trans (hb8.mono hB.size)
            have HC8 := Lib.hid ho8.rb
            have HDF6 := Lib.hid (HDF.out.below hb8)
            have HG1 := Lib.hid (hb8.cell (p := ⟨bf, fo + k * 2 + 1, none⟩) hbf |>.trans HF1.out)
            clear f0 RD HDF HF1 ho8 hb8 hB
            go_wp2_with fail
            refine wp_region_planE_gen (by kernel_rfl) [(0, none), (1, none), (2, none), (3, none), (4, none), (5, none), (6, none), (7, none), (8, none), (9, none), (10, none), (11, none), (12, none)] (by kernel_rfl) (by kernel_rfl) (by decide) ?_
            intro wq hwq
            have hbq : Below w6.heap.size w6 wq := by rw [hwq]; exact (Below.refl _ _).drew
            have f1 := hbq.cell (p := ⟨bf, fo + k * 2 + 1, none⟩) hbf6 |>.trans HG1.out
            have hBq := hB6.trans (hbq.mono hB6.size)
            have HQ8 := Lib.hid (HC8.out.below hbq)
            have HQF := Lib.hid (HDF6.out.below hbq)
            clear hwq hbq
            iterate 4 (refine planE_pure (v := ?_) rfl (by rfl) (fun w' => ?_) ?_; rotate_left; (focus (simp only [List.getElem_toArray, List.getElem_cons_succ, List.getElem_cons_zero]; go_simp; first | with_reducible rfl | (simp (disch := omega) only [if_pos, if_neg, dif_pos, Result.andThen_ok]; try with_reducible rfl) | skip)); try simp only [List.getElem_toArray, List.getElem_cons_succ, List.getElem_cons_zero, Act.put, List.setIfInBounds_toArray, List.set_cons_zero, List.set_cons_succ])
            refine planE_read (v := ?_) (fun w' => (convert 23 9 (.slice A8 dat.length c8)).run Tryd.prog w' = .ok (.string ⟨dat.toArray⟩) w') rfl (by rfl) (fun w' hw' => ?_) (convB c8 HQ8.out) ?_; rotate_left; (focus (simp only [List.getElem_toArray, List.getElem_cons_succ, List.getElem_cons_zero]; go_simp; first | with_reducible rfl | (simp (disch := omega) only [if_pos, if_neg, dif_pos, Result.andThen_ok]; try with_reducible rfl) | skip)); try simp only [List.getElem_toArray, List.getElem_cons_succ, List.getElem_cons_zero, Act.put, List.setIfInBounds_toArray, List.set_cons_zero, List.set_cons_succ]
            iterate 4 (refine planE_pure (v := ?_) rfl (by rfl) (fun w' => ?_) ?_; rotate_left; (focus (simp only [List.getElem_toArray, List.getElem_cons_succ, List.getElem_cons_zero]; go_simp; first | with_reducible rfl | (simp (disch := omega) only [if_pos, if_neg, dif_pos, Result.andThen_ok]; try with_reducible rfl) | skip)); try simp only [List.getElem_toArray, List.getElem_cons_succ, List.getElem_cons_zero, Act.put, List.setIfInBounds_toArray, List.set_cons_zero, List.set_cons_succ])
            refine planE_cells (v := ?_) [(⟨bf, fo + k * 2 + 1, none⟩, .slice fA dat.length fc)] (by simp; and_intros <;> assumption) rfl (by rfl) (fun w' hw' => ?_) ?_; rotate_left; (focus (simp only [List.forall_mem_cons, List.not_mem_nil, false_imp_iff, implies_true, and_true] at hw'; simp only [List.getElem_toArray, List.getElem_cons_succ, List.getElem_cons_zero]; go_simp; first | with_reducible rfl | (simp (disch := omega) only [if_pos, if_neg, dif_pos, Result.andThen_ok]; try with_reducible rfl) | skip)); try simp only [List.getElem_toArray, List.getElem_cons_succ, List.getElem_cons_zero, Act.put, List.setIfInBounds_toArray, List.set_cons_zero, List.set_cons_succ]
            refine planE_read (v := ?_) (fun w' => (convert 23 9 (.slice fA dat.length fc)).run Tryd.prog w' = .ok (.string ⟨dat.toArray⟩) w') rfl (by rfl) (fun w' hw' => ?_) (convB fc HQF.out) ?_; rotate_left; (focus (simp only [List.getElem_toArray, List.getElem_cons_succ, List.getElem_cons_zero]; go_simp; first | with_reducible rfl | (simp (disch := omega) only [if_pos, if_neg, dif_pos, Result.andThen_ok]; try with_reducible rfl) | skip)); try simp only [List.getElem_toArray, List.getElem_cons_succ, List.getElem_cons_zero, Act.put, List.setIfInBounds_toArray, List.set_cons_zero, List.set_cons_succ]
            iterate 2 (refine planE_pure (v := ?_) rfl (by rfl) (fun w' => ?_) ?_; rotate_left; (focus (simp only [List.getElem_toArray, List.getElem_cons_succ, List.getElem_cons_zero]; go_simp; first | with_reducible rfl | (simp (disch := omega) only [if_pos, if_neg, dif_pos, Result.andThen_ok]; try with_reducible rfl) | skip)); try simp only [List.getElem_toArray, List.getElem_cons_succ, List.getElem_cons_zero, Act.put, List.setIfInBounds_toArray, List.set_cons_zero, List.set_cons_succ])
            refine planE_end ?_
            clear f1
            go_wp2_with fail
            go_roundw
            case rel => exact ⟨k + 1, hlt1, by go_num, hBq⟩
            case measure => simp [intOf]; omega
          · obtain rfl : k = L5.length := by omega
            go_wp2_with fail
            go_ret
            exact ⟨rfl, hB9.trans (hB.mono hB9.size)⟩
  · go_wp2_with fail
    refine (diskCutC name n HP6.out.di hcnt HOK.out.name HOK.out.n).mono ?_
    rintro e w8 ⟨rfl, hd8', hmm⟩
    have HD8 := Lib.hid hd8'
    clear y0 y1 y2 hd8'
    obtain ⟨code, hcode⟩ : ∃ code, code = (changeD D ⟨2, name, n.toNat, []⟩ n).1 := ⟨_, rfl⟩
    obtain ⟨E, hE⟩ : ∃ E, E = (changeD D ⟨2, name, n.toNat, []⟩ n).2 := ⟨_, rfl⟩
    have HCH := Lib.hid (changed D ⟨2, name, n.toNat, []⟩ n HRIS0.out (.inr (.inl rfl)))
    have HGE := Lib.hid (HG.out.change ⟨2, name, n.toNat, []⟩ n)
    rw [← hcode, ← hE] at HCH
    rw [← hE] at HD8 HGE
    rw [← hcode]
    clear hcode hE
    obtain ⟨T8, HDI⟩ : ∃ T8, Hid (DI T8 w8 d E) := ⟨_, HD8⟩
    have hB8 : Below w.heap.size w w8 := Mods.old hB6 hmm hB6.size fun i _ hi => by have := (HTB.out i hi).1; omega
    have HO8 := Lib.hid (HO6.out.of_mods hmm fun b hb _ hT => by have := (HTB.out b hT).2; omega)
    have HR8 : Hid (w8.cell? ⟨g, 2, none⟩ = some (.int .i64 D.room)) := Lib.hid (by
      obtain ⟨cs, h1, h2⟩ := HG2.out
      exact (h1.mods hmm HMG.out).cell 2 h2)
    have hs8 := hmm.size
    have HGL : Hid (g < w8.heap.size) := Lib.hid (Nat.lt_of_lt_of_le HGL.out hs8)
    have hcE : E.cnt ≤ 1000000 := Nat.le_trans HGE.out.1 (by omega)
    have HNM := Lib.hid HGE.out.2
    clear HD8 hmm HP6 HO6 HX6 HG2 HMG HTX HTB hB6 HG HGE
    by_cases hz : code = 0
    · subst hz
      have hfit := HCH.out.1 rfl
      clear HCH
      have HUS := Lib.hid (fun w' (hb : Below w8.heap.size w8 w') => diskUsedC (HDI.out.below hb) hcE)
      generalize fsize D.files = fD at *
      generalize fsize E.files = fE at *
      by_cases hle : fE ≤ fD
      · have hdec : decide ((fE : Int) ≤ (fD : Int)) = true := decide_eq_true (by omega)
        go_wp2_with fail
        refine wp_region_planE_gen (by kernel_rfl) [(0, none), (2, none), (1, some [0]), (3, none), (4, none), (5, none), (6, none), (7, none), (8, none), (9, none), (10, none), (11, none), (12, none), (13, none)] (by kernel_rfl) (by kernel_rfl) (by decide) ?_
        intro wq hwq
        have hbq : Below w8.heap.size w8 wq := by rw [hwq]; exact (Below.refl _ _).drew
        clear hwq
        iterate 2 (refine planE_pure (v := ?_) rfl (by rfl) (fun w' => ?_) ?_; rotate_left; (focus (simp only [List.getElem_toArray, List.getElem_cons_succ, List.getElem_cons_zero]; go_simp; first | with_reducible rfl | (simp (disch := omega) only [if_pos, if_neg, dif_pos, Result.andThen_ok]; try with_reducible rfl) | skip)); try simp only [List.getElem_toArray, List.getElem_cons_succ, List.getElem_cons_zero, Act.put, List.setIfInBounds_toArray, List.set_cons_zero, List.set_cons_succ])
        refine planE_eff rfl (by rfl) (fun K hK => ?_)
        go_simp
        refine (HUS.out _ hbq).mono ?_
        rintro e w9 ⟨rfl, hb9⟩
        have hB9 := hB8.trans ((hbq.trans (hb9.mono hbq.size)).mono hB8.size)
        refine hK _ _ (by simp [owed, left] <;> (and_intros <;> first | trivial | assumption)) ?_
        clear hK K
        try simp only [List.getElem_toArray, List.getElem_cons_succ, List.getElem_cons_zero, Act.put, List.setIfInBounds_toArray, List.set_cons_zero, List.set_cons_succ]
        iterate 2 (refine planE_pure (v := ?_) rfl (by rfl) (fun w' => ?_) ?_; rotate_left; (focus (simp only [List.getElem_toArray, List.getElem_cons_succ, List.getElem_cons_zero]; go_simp; first | with_reducible rfl | (simp (disch := omega) only [if_pos, if_neg, dif_pos, Result.andThen_ok]; try with_reducible rfl) | skip)); try simp only [List.getElem_toArray, List.getElem_cons_succ, List.getElem_cons_zero, Act.put, List.setIfInBounds_toArray, List.set_cons_zero, List.set_cons_succ])
        refine planE_skip rfl (by rfl) ?_
        try simp only [List.getElem_toArray, List.getElem_cons_succ, List.getElem_cons_zero, Act.put, List.setIfInBounds_toArray, List.set_cons_zero, List.set_cons_succ]
        refine planE_skip rfl (by rfl) ?_
        try simp only [List.getElem_toArray, List.getElem_cons_succ, List.getElem_cons_zero, Act.put, List.setIfInBounds_toArray, List.set_cons_zero, List.set_cons_succ]
        refine planE_skip rfl (by rfl) ?_
        try simp only [List.getElem_toArray, List.getElem_cons_succ, List.getElem_cons_zero, Act.put, List.setIfInBounds_toArray, List.set_cons_zero, List.set_cons_succ]
        refine planE_skip rfl (by rfl) ?_
        try simp only [List.getElem_toArray, List.getElem_cons_succ, List.getElem_cons_zero, Act.put, List.setIfInBounds_toArray, List.set_cons_zero, List.set_cons_succ]
        refine planE_skip rfl (by rfl) ?_
        try simp only [List.getElem_toArray, List.getElem_cons_succ, List.getElem_cons_zero, Act.put, List.setIfInBounds_toArray, List.set_cons_zero, List.set_cons_succ]
        refine planE_skip rfl (by rfl) ?_
        try simp only [List.getElem_toArray, List.getElem_cons_succ, List.getElem_cons_zero, Act.put, List.setIfInBounds_toArray, List.set_cons_zero, List.set_cons_succ]
        refine planE_skip rfl (by rfl) ?_
        try simp only [List.getElem_toArray, List.getElem_cons_succ, List.getElem_cons_zero, Act.put, List.setIfInBounds_toArray, List.set_cons_zero, List.set_cons_succ]
        iterate 2 (refine planE_pure (v := ?_) rfl (by rfl) (fun w' => ?_) ?_; rotate_left; (focus (simp only [List.getElem_toArray, List.getElem_cons_succ, List.getElem_cons_zero]; go_simp; first | with_reducible rfl | (simp (disch := omega) only [if_pos, if_neg, dif_pos, Result.andThen_ok]; try with_reducible rfl) | skip)); try simp only [List.getElem_toArray, List.getElem_cons_succ, List.getElem_cons_zero, Act.put, List.setIfInBounds_toArray, List.set_cons_zero, List.set_cons_succ])
        refine planE_end ?_
        go_wp2_with fail
        go_ret
        exact ⟨rfl, hB9⟩
      · have hdec : decide ((fE : Int) ≤ (fD : Int)) = false := decide_eq_false (by omega)
        have hfr : (fE : Int) ≤ D.room := by rcases hfit with h | h <;> omega
        generalize D.room = rm at *
        have hdec2 : decide ((fE : Int) ≤ rm) = true := decide_eq_true hfr
        go_wp2_with fail
        refine wp_region_planE_gen (by kernel_rfl) [(0, none), (2, none), (1, some [0]), (3, none), (4, none), (5, none), (7, none), (8, none), (9, none), (10, none), (6, some [4, 5]), (11, none), (12, none), (13, none)] (by kernel_rfl) (by kernel_rfl) (by decide) ?_
        intro wq hwq
        have hbq : Below w8.heap.size w8 wq := by rw [hwq]; exact (Below.refl _ _).drew
        have hgl : g < w8.heap.size := HGL.out
        have g2 := (hbq.cell (p := ⟨g, 2, none⟩) hgl).trans HR8.out
        clear hwq
        iterate 2 (refine planE_pure (v := ?_) rfl (by rfl) (fun w' => ?_) ?_; rotate_left; (focus (simp only [List.getElem_toArray, List.getElem_cons_succ, List.getElem_cons_zero]; go_simp; first | with_reducible rfl | (simp (disch := omega) only [if_pos, if_neg, dif_pos, Result.andThen_ok]; try with_reducible rfl) | skip)); try simp only [List.getElem_toArray, List.getElem_cons_succ, List.getElem_cons_zero, Act.put, List.setIfInBounds_toArray, List.set_cons_zero, List.set_cons_succ])
        refine planE_eff rfl (by rfl) (fun K hK => ?_)
        go_simp
        refine (HUS.out _ hbq).mono ?_
        rintro e w9 ⟨rfl, hb9⟩
        have hbq9 := hbq.trans (hb9.mono hbq.size)
        clear g2
        have g2 := (hbq9.cell (p := ⟨g, 2, none⟩) hgl).trans HR8.out
        refine hK _ _ (by simp [owed, left] <;> (and_intros <;> first | trivial | assumption)) ?_
        clear hK K
        try simp only [List.getElem_toArray, List.getElem_cons_succ, List.getElem_cons_zero, Act.put, List.setIfInBounds_toArray, List.set_cons_zero, List.set_cons_succ]
        iterate 6 (refine planE_pure (v := ?_) rfl (by rfl) (fun w' => ?_) ?_; rotate_left; (focus (simp only [List.getElem_toArray, List.getElem_cons_succ, List.getElem_cons_zero]; go_simp; first | with_reducible rfl | (simp (disch := omega) only [if_pos, if_neg, dif_pos, Result.andThen_ok]; try with_reducible rfl) | skip)); try simp only [List.getElem_toArray, List.getElem_cons_succ, List.getElem_cons_zero, Act.put, List.setIfInBounds_toArray, List.set_cons_zero, List.set_cons_succ])
        refine planE_cells (v := ?_) [(⟨g, 2, none⟩, .int .i64 rm)] (by simp; and_intros <;> assumption) rfl (by rfl) (fun w' hw' => ?_) ?_; rotate_left; (focus (simp only [List.forall_mem_cons, List.not_mem_nil, false_imp_iff, implies_true, and_true] at hw'; simp only [List.getElem_toArray, List.getElem_cons_succ, List.getElem_cons_zero]; go_simp; first | with_reducible rfl | (simp (disch := omega) only [if_pos, if_neg, dif_pos, Result.andThen_ok]; try with_reducible rfl) | skip)); try simp only [List.getElem_toArray, List.getElem_cons_succ, List.getElem_cons_zero, Act.put, List.setIfInBounds_toArray, List.set_cons_zero, List.set_cons_succ]
        refine planE_eff rfl (by rfl) (fun K hK => ?_)
        go_simp
        refine (HUS.out _ hbq9).mono ?_
        rintro e w10 ⟨rfl, hb10⟩
        have hbq10 := hbq9.trans (hb10.mono hbq9.size)
        have hB10 := hB8.trans (hbq10.mono hB8.size)
        clear g2
        have g2 := (hbq10.cell (p := ⟨g, 2, none⟩) hgl).trans HR8.out
        refine hK _ _ (by simp [owed, left] <;> (and_intros <;> first | trivial | assumption)) ?_
        clear hK K
        try simp only [List.getElem_toArray, List.getElem_cons_succ, List.getElem_cons_zero, Act.put, List.setIfInBounds_toArray, List.set_cons_zero, List.set_cons_succ]
        iterate 3 (refine planE_pure (v := ?_) rfl (by rfl) (fun w' => ?_) ?_; rotate_left; (focus (simp only [List.getElem_toArray, List.getElem_cons_succ, List.getElem_cons_zero]; go_simp; first | with_reducible rfl | (simp (disch := omega) only [if_pos, if_neg, dif_pos, Result.andThen_ok]; try with_reducible rfl) | skip)); try simp only [List.getElem_toArray, List.getElem_cons_succ, List.getElem_cons_zero, Act.put, List.setIfInBounds_toArray, List.set_cons_zero, List.set_cons_succ])
        refine planE_end ?_
        go_wp2_with fail
        go_ret
        exact ⟨rfl, hB10⟩
    · obtain ⟨hff, hdd⟩ := HCH.out.2 hz
      clear HCH
      have HUS := Lib.hid (diskUsedC HDI.out hcE)
      have HDC := Lib.hid (fun w' (hb : Below w8.heap.size w8 w') => diskDownC (HDI.out.below hb))
      have HV5 : Hid (L5.map FRow.val = E.files) := Lib.hid (by rw [HV5.out, hff])
      have HFF : Hid (E.files = D.files) := Lib.hid hff
      rw [hff] at HUS
      have HRIS := Lib.hid HDI.out.ris
      generalize fsize D.files = fD at *
      by_cases h11 : code = 11
      · have hde : E.down = true := by rw [hdd, h11]; rfl
        subst h11
        rw [hde] at HDC
        clear hdd hff HFF hde
        go_wp2_with fail
        refine HUS.out.mono ?_
        rintro e w9 ⟨rfl, hb9⟩
        have hB9 := hB8.trans (hb9.mono hB8.size)
        have DC2 := Lib.hid (fun w' (hb : Below w9.heap.size w9 w') => HDC.out w' (hb9.trans (hb.mono hb9.size)))
        clear HUS
        go_wp2_with fail
        refine (HDC.out _ hb9).mono ?_
        rintro e w9' ⟨rfl, rfl⟩
        clear hb9 HDC
        go_wp2_with fail
        go_loopw [12] (fun sk wr => sk = .int .i64 (0 : Int) ∧ w9 = wr) (fun _ _ => 0)
        case atStart => exact ⟨rfl, rfl⟩
        case round =>
          obtain ⟨rfl, rfl⟩ := hrel
          by_cases h0 : 0 < L5.length
          · go_wp2_with fail
            refine (DC2.out _ (Below.refl _ _)).mono ?_
            rintro e w9' ⟨rfl, rfl⟩
            go_wp2_with fail
            go_ret
            exact ⟨rfl, hB9⟩
          · go_wp2_with fail
            go_ret
            exact ⟨rfl, hB9⟩
      · have hde : E.down = false := by rw [hdd]; exact decide_eq_false h11
        rw [hde] at HDC
        have HDN := Lib.hid hde
        have hcb : (code == 11) = false := by simpa using h11
        clear hdd hff HFF hde
        go_wp2_with fail
        refine HUS.out.mono ?_
        rintro e w9 ⟨rfl, hb9⟩
        have hB9 := hB8.trans (hb9.mono hB8.size)
        have HDI := Lib.hid (HDI.out.below hb9)
        have HO5 := Lib.hid (HO8.out.below hb9)
        have DC2 := Lib.hid (fun w' (hb : Below w9.heap.size w9 w') => HDC.out w' (hb9.trans (hb.mono hb9.size)))
        clear HUS
        go_wp2_with fail
        refine (HDC.out _ hb9).mono ?_
        rintro e w9' ⟨rfl, rfl⟩
        clear hb9 HDC
        go_wp2_with fail
        go_loopw [12] (fun sk wr => ∃ k : Nat, k ≤ L5.length ∧ sk = .int .i64 (k : Int) ∧ Below w9.heap.size w9 wr) (fun sk _ => L5.length - (intOf sk).toNat)
        case atStart => exact ⟨0, Nat.zero_le _, rfl, Below.refl _ _⟩
        case round =>
          obtain ⟨k, hk, rfl, hB⟩ := hrel
          by_cases hlt : k < L5.length
          · have hFO := HO5.out.below hB
            obtain ⟨bf, fo, hA5, hbf, f0, f1⟩ := hFO.rd.row hlt
            have HDF := Lib.hid (hFO.dat _ (List.getElem_mem hlt)).rb
            have hmf : L5[k].val ∈ (E).files := by rw [← HV5.out]; exact List.mem_map.2 ⟨_, List.getElem_mem hlt, rfl⟩
            obtain ⟨hre, hrb⟩ := readBack HDN.out HNM.out HRIS.out hmf
            have hre : readE (E) L5[k].name = 0 := hre
            have hrb : readB (E) L5[k].name = L5[k].data := hrb
            have hno : nameOk L5[k].name = true := HNM.out.files _ hmf
            have RD := Lib.hid (diskReadC L5[k].name (HDI.out.below hB) (by have := nameOk_len hno; omega))
            unfold ReadEnd at RD
            rw [hre, hrb] at RD
            generalize L5[k].name = nm at *
            generalize L5[k].data = dat at *
            generalize L5[k].A = fA at *
            generalize L5[k].c = fc at *
            subst hA5
            have hlt1 : k + 1 ≤ L5.length := hlt
            have HF1 := Lib.hid f1
            clear hFO hmf hno hre hrb f1
            go_wp2_with fail
            refine (DC2.out _ hB).mono ?_
            rintro e w9' ⟨rfl, rfl⟩
            go_wp2_with fail
            refine RD.out.mono ?_
            rintro e w6 ⟨A8, c8, rfl, ho8, hb8⟩
            have hbf6 := Nat.lt_of_lt_of_le hbf hb8.size
            have hB6 := hB.trans (hb8.mono hB.size)
            have HC8 := Lib.hid ho8.rb
            have HDF6 := Lib.hid (HDF.out.below hb8)
            have HG1 := Lib.hid (hb8.cell (p := ⟨bf, fo + k * 2 + 1, none⟩) hbf |>.trans HF1.out)
            clear f0 RD HDF HF1 ho8 hb8 hB
            go_wp2_with fail
            refine wp_region_planE_gen (by kernel_rfl) [(0, none), (1, none), (2, none), (3, none), (4, none), (5, none), (6, none), (7, none), (8, none), (9, none), (10, none), (11, none), (12, none)] (by kernel_rfl) (by kernel_rfl) (by decide) ?_
            intro wq hwq
            have hbq : Below w6.heap.size w6 wq := by rw [hwq]; exact (Below.refl _ _).drew
            have f1 := hbq.cell (p := ⟨bf, fo + k * 2 + 1, none⟩) hbf6 |>.trans HG1.out
            have hBq := hB6.trans (hbq.mono hB6.size)
            have HQ8 := Lib.hid (HC8.out.below hbq)
            have HQF := Lib.hid (HDF6.out.below hbq)
            clear hwq hbq
            iterate 4 (refine planE_pure (v := ?_) rfl (by rfl) (fun w' => ?_) ?_; rotate_left; (focus (simp only [List.getElem_toArray, List.getElem_cons_succ, List.getElem_cons_zero]; go_simp; first | with_reducible rfl | (simp (disch := omega) only [if_pos, if_neg, dif_pos, Result.andThen_ok]; try with_reducible rfl) | skip)); try simp only [List.getElem_toArray, List.getElem_cons_succ, List.getElem_cons_zero, Act.put, List.setIfInBounds_toArray, List.set_cons_zero, List.set_cons_succ])
            refine planE_read (v := ?_) (fun w' => (convert 23 9 (.slice A8 dat.length c8)).run Tryd.prog w' = .ok (.string ⟨dat.toArray⟩) w') rfl (by rfl) (fun w' hw' => ?_) (convB c8 HQ8.out) ?_; rotate_left; (focus (simp only [List.getElem_toArray, List.getElem_cons_succ, List.getElem_cons_zero]; go_simp; first | with_reducible rfl | (simp (disch := omega) only [if_pos, if_neg, dif_pos, Result.andThen_ok]; try with_reducible rfl) | skip)); try simp only [List.getElem_toArray, List.getElem_cons_succ, List.getElem_cons_zero, Act.put, List.setIfInBounds_toArray, List.set_cons_zero, List.set_cons_succ]
            iterate 4 (refine planE_pure (v := ?_) rfl (by rfl) (fun w' => ?_) ?_; rotate_left; (focus (simp only [List.getElem_toArray, List.getElem_cons_succ, List.getElem_cons_zero]; go_simp; first | with_reducible rfl | (simp (disch := omega) only [if_pos, if_neg, dif_pos, Result.andThen_ok]; try with_reducible rfl) | skip)); try simp only [List.getElem_toArray, List.getElem_cons_succ, List.getElem_cons_zero, Act.put, List.setIfInBounds_toArray, List.set_cons_zero, List.set_cons_succ])
            refine planE_cells (v := ?_) [(⟨bf, fo + k * 2 + 1, none⟩, .slice fA dat.length fc)] (by simp; and_intros <;> assumption) rfl (by rfl) (fun w' hw' => ?_) ?_; rotate_left; (focus (simp only [List.forall_mem_cons, List.not_mem_nil, false_imp_iff, implies_true, and_true] at hw'; simp only [List.getElem_toArray, List.getElem_cons_succ, List.getElem_cons_zero]; go_simp; first | with_reducible rfl | (simp (disch := omega) only [if_pos, if_neg, dif_pos, Result.andThen_ok]; try with_reducible rfl) | skip)); try simp only [List.getElem_toArray, List.getElem_cons_succ, List.getElem_cons_zero, Act.put, List.setIfInBounds_toArray, List.set_cons_zero, List.set_cons_succ]
            refine planE_read (v := ?_) (fun w' => (convert 23 9 (.slice fA dat.length fc)).run Tryd.prog w' = .ok (.string ⟨dat.toArray⟩) w') rfl (by rfl) (fun w' hw' => ?_) (convB fc HQF.out) ?_; rotate_left; (focus (simp only [List.getElem_toArray, List.getElem_cons_succ, List.getElem_cons_zero]; go_simp; first | with_reducible rfl | (simp (disch := omega) only [if_pos, if_neg, dif_pos, Result.andThen_ok]; try with_reducible rfl) | skip)); try simp only [List.getElem_toArray, List.getElem_cons_succ, List.getElem_cons_zero, Act.put, List.setIfInBounds_toArray, List.set_cons_zero, List.set_cons_succ]
            iterate 2 (refine planE_pure (v := ?_) rfl (by rfl) (fun w' => ?_) ?_; rotate_left; (focus (simp only [List.getElem_toArray, List.getElem_cons_succ, List.getElem_cons_zero]; go_simp; first | with_reducible rfl | (simp (disch := omega) only [if_pos, if_neg, dif_pos, Result.andThen_ok]; try with_reducible rfl) | skip)); try simp only [List.getElem_toArray, List.getElem_cons_succ, List.getElem_cons_zero, Act.put, List.setIfInBounds_toArray, List.set_cons_zero, List.set_cons_succ])
            refine planE_end ?_
            clear f1
            go_wp2_with fail
            go_roundw
            case rel => exact ⟨k + 1, hlt1, by go_num, hBq⟩
            case measure => simp [intOf]; omega
          · obtain rfl : k = L5.length := by omega
            go_wp2_with fail
            go_ret
            exact ⟨rfl, hB9.trans (hB.mono hB9.size)⟩
  · go_wp2_with fail
    refine (diskRemoveC name HP6.out.di hcnt HOK.out.name).mono ?_
    rintro e w8 ⟨rfl, hd8', hmm⟩
    have HD8 := Lib.hid hd8'
    clear y0 y1 y2 hd8'
    obtain ⟨code, hcode⟩ : ∃ code, code = (changeD D ⟨3, name, 0, []⟩ 0).1 := ⟨_, rfl⟩
    obtain ⟨E, hE⟩ : ∃ E, E = (changeD D ⟨3, name, 0, []⟩ 0).2 := ⟨_, rfl⟩
    have HCH := Lib.hid (changed D ⟨3, name, 0, []⟩ 0 HRIS0.out (.inr (.inr rfl)))
    have HGE := Lib.hid (HG.out.change ⟨3, name, 0, []⟩ 0)
    rw [← hcode, ← hE] at HCH
    rw [← hE] at HD8 HGE
    rw [← hcode]
    clear hcode hE
    obtain ⟨T8, HDI⟩ : ∃ T8, Hid (DI T8 w8 d E) := ⟨_, HD8⟩
    have hB8 : Below w.heap.size w w8 := Mods.old hB6 hmm hB6.size fun i _ hi => by have := (HTB.out i hi).1; omega
    have HO8 := Lib.hid (HO6.out.of_mods hmm fun b hb _ hT => by have := (HTB.out b hT).2; omega)
    have HR8 : Hid (w8.cell? ⟨g, 2, none⟩ = some (.int .i64 D.room)) := Lib.hid (by
      obtain ⟨cs, h1, h2⟩ := HG2.out
      exact (h1.mods hmm HMG.out).cell 2 h2)
    have hs8 := hmm.size
    have HGL : Hid (g < w8.heap.size) := Lib.hid (Nat.lt_of_lt_of_le HGL.out hs8)
    have hcE : E.cnt ≤ 1000000 := Nat.le_trans HGE.out.1 (by omega)
    have HNM := Lib.hid HGE.out.2
    clear HD8 hmm HP6 HO6 HX6 HG2 HMG HTX HTB hB6 HG HGE
    by_cases hz : code = 0
    · subst hz
      have hfit := HCH.out.1 rfl
      clear HCH
      have HUS := Lib.hid (fun w' (hb : Below w8.heap.size w8 w') => diskUsedC (HDI.out.below hb) hcE)
      generalize fsize D.files = fD at *
      generalize fsize E.files = fE at *
      by_cases hle : fE ≤ fD
      · have hdec : decide ((fE : Int) ≤ (fD : Int)) = true := decide_eq_true (by omega)
        go_wp2_with fail
        refine wp_region_planE_gen (by kernel_rfl) [(0, none), (2, none), (1, some [0]), (3, none), (4, none), (5, none), (6, none), (7, none), (8, none), (9, none), (10, none), (11, none), (12, none), (13, none)] (by kernel_rfl) (by kernel_rfl) (by decide) ?_
        intro wq hwq
        have hbq : Below w8.heap.size w8 wq := by rw [hwq]; exact (Below.refl _ _).drew
        clear hwq
        iterate 2 (refine planE_pure (v := ?_) rfl (by rfl) (fun w' => ?_) ?_; rotate_left; (focus (simp only [List.getElem_toArray, List.getElem_cons_succ, List.getElem_cons_zero]; go_simp; first | with_reducible rfl | (simp (disch := omega) only [if_pos, if_neg, dif_pos, Result.andThen_ok]; try with_reducible rfl) | skip)); try simp only [List.getElem_toArray, List.getElem_cons_succ, List.getElem_cons_zero, Act.put, List.setIfInBounds_toArray, List.set_cons_zero, List.set_cons_succ])
        refine planE_eff rfl (by rfl) (fun K hK => ?_)
        go_simp
        refine (HUS.out _ hbq).mono ?_
        rintro e w9 ⟨rfl, hb9⟩
        have hB9 := hB8.trans ((hbq.trans (hb9.mono hbq.size)).mono hB8.size)
        refine hK _ _ (by simp [owed, left] <;> (and_intros <;> first | trivial | assumption)) ?_
        clear hK K
        try simp only [List.getElem_toArray, List.getElem_cons_succ, List.getElem_cons_zero, Act.put, List.setIfInBounds_toArray, List.set_cons_zero, List.set_cons_succ]
        iterate 2 (refine planE_pure (v := ?_) rfl (by rfl) (fun w' => ?_) ?_; rotate_left; (focus (simp only [List.getElem_toArray, List.getElem_cons_succ, List.getElem_cons_zero]; go_simp; first | with_reducible rfl | (simp (disch := omega) only [if_pos, if_neg, dif_pos, Result.andThen_ok]; try with_reducible rfl) | skip)); try simp only [List.getElem_toArray, List.getElem_cons_succ, List.getElem_cons_zero, Act.put, List.setIfInBounds_toArray, List.set_cons_zero, List.set_cons_succ])
        refine planE_skip rfl (by rfl) ?_
        try simp only [List.getElem_toArray, List.getElem_cons_succ, List.getElem_cons_zero, Act.put, List.setIfInBounds_toArray, List.set_cons_zero, List.set_cons_succ]
        refine planE_skip rfl (by rfl) ?_
        try simp only [List.getElem_toArray, List.getElem_cons_succ, List.getElem_cons_zero, Act.put, List.setIfInBounds_toArray, List.set_cons_zero, List.set_cons_succ]
        refine planE_skip rfl (by rfl) ?_
        try simp only [List.getElem_toArray, List.getElem_cons_succ, List.getElem_cons_zero, Act.put, List.setIfInBounds_toArray, List.set_cons_zero, List.set_cons_succ]
        refine planE_skip rfl (by rfl) ?_
        try simp only [List.getElem_toArray, List.getElem_cons_succ, List.getElem_cons_zero, Act.put, List.setIfInBounds_toArray, List.set_cons_zero, List.set_cons_succ]
        refine planE_skip rfl (by rfl) ?_
        try simp only [List.getElem_toArray, List.getElem_cons_succ, List.getElem_cons_zero, Act.put, List.setIfInBounds_toArray, List.set_cons_zero, List.set_cons_succ]
        refine planE_skip rfl (by rfl) ?_
        try simp only [List.getElem_toArray, List.getElem_cons_succ, List.getElem_cons_zero, Act.put, List.setIfInBounds_toArray, List.set_cons_zero, List.set_cons_succ]
        refine planE_skip rfl (by rfl) ?_
        try simp only [List.getElem_toArray, List.getElem_cons_succ, List.getElem_cons_zero, Act.put, List.setIfInBounds_toArray, List.set_cons_zero, List.set_cons_succ]
        iterate 2 (refine planE_pure (v := ?_) rfl (by rfl) (fun w' => ?_) ?_; rotate_left; (focus (simp only [List.getElem_toArray, List.getElem_cons_succ, List.getElem_cons_zero]; go_simp; first | with_reducible rfl | (simp (disch := omega) only [if_pos, if_neg, dif_pos, Result.andThen_ok]; try with_reducible rfl) | skip)); try simp only [List.getElem_toArray, List.getElem_cons_succ, List.getElem_cons_zero, Act.put, List.setIfInBounds_toArray, List.set_cons_zero, List.set_cons_succ])
        refine planE_end ?_
        go_wp2_with fail
        go_ret
        exact ⟨rfl, hB9⟩
      · have hdec : decide ((fE : Int) ≤ (fD : Int)) = false := decide_eq_false (by omega)
        have hfr : (fE : Int) ≤ D.room := by rcases hfit with h | h <;> omega
        generalize D.room = rm at *
        have hdec2 : decide ((fE : Int) ≤ rm) = true := decide_eq_true hfr
        go_wp2_with fail
        refine wp_region_planE_gen (by kernel_rfl) [(0, none), (2, none), (1, some [0]), (3, none), (4, none), (5, none), (7, none), (8, none), (9, none), (10, none), (6, some [4, 5]), (11, none), (12, none), (13, none)] (by kernel_rfl) (by kernel_rfl) (by decide) ?_
        intro wq hwq
        have hbq : Below w8.heap.size w8 wq := by rw [hwq]; exact (Below.refl _ _).drew
        have hgl : g < w8.heap.size := HGL.out
        have g2 := (hbq.cell (p := ⟨g, 2, none⟩) hgl).trans HR8.out
        clear hwq
        iterate 2 (refine planE_pure (v := ?_) rfl (by rfl) (fun w' => ?_) ?_; rotate_left; (focus (simp only [List.getElem_toArray, List.getElem_cons_succ, List.getElem_cons_zero]; go_simp; first | with_reducible rfl | (simp (disch := omega) only [if_pos, if_neg, dif_pos, Result.andThen_ok]; try with_reducible rfl) | skip)); try simp only [List.getElem_toArray, List.getElem_cons_succ, List.getElem_cons_zero, Act.put, List.setIfInBounds_toArray, List.set_cons_zero, List.set_cons_succ])
        refine planE_eff rfl (by rfl) (fun K hK => ?_)
        go_simp
        refine (HUS.out _ hbq).mono ?_
        rintro e w9 ⟨rfl, hb9⟩
        have hbq9 := hbq.trans (hb9.mono hbq.size)
        clear g2
        have g2 := (hbq9.cell (p := ⟨g, 2, none⟩) hgl).trans HR8.out
        refine hK _ _ (by simp [owed, left] <;> (and_intros <;> first | trivial | assumption)) ?_
        clear hK K
        try simp only [List.getElem_toArray, List.getElem_cons_succ, List.getElem_cons_zero, Act.put, List.setIfInBounds_toArray, List.set_cons_zero, List.set_cons_succ]
        iterate 6 (refine planE_pure (v := ?_) rfl (by rfl) (fun w' => ?_) ?_; rotate_left; (focus (simp only [List.getElem_toArray, List.getElem_cons_succ, List.getElem_cons_zero]; go_simp; first | with_reducible rfl | (simp (disch := omega) only [if_pos, if_neg, dif_pos, Result.andThen_ok]; try with_reducible rfl) | skip)); try simp only [List.getElem_toArray, List.getElem_cons_succ, List.getElem_cons_zero, Act.put, List.setIfInBounds_toArray, List.set_cons_zero, List.set_cons_succ])
        refine planE_cells (v := ?_) [(⟨g, 2, none⟩, .int .i64 rm)] (by simp; and_intros <;> assumption) rfl (by rfl) (fun w' hw' => ?_) ?_; rotate_left; (focus (simp only [List.forall_mem_cons, List.not_mem_nil, false_imp_iff, implies_true, and_true] at hw'; simp only [List.getElem_toArray, List.getElem_cons_succ, List.getElem_cons_zero]; go_simp; first | with_reducible rfl | (simp (disch := omega) only [if_pos, if_neg, dif_pos, Result.andThen_ok]; try with_reducible rfl) | skip)); try simp only [List.getElem_toArray, List.getElem_cons_succ, List.getElem_cons_zero, Act.put, List.setIfInBounds_toArray, List.set_cons_zero, List.set_cons_succ]
        refine planE_eff rfl (by rfl) (fun K hK => ?_)
        go_simp
        refine (HUS.out _ hbq9).mono ?_
        rintro e w10 ⟨rfl, hb10⟩
        have hbq10 := hbq9.trans (hb10.mono hbq9.size)
        have hB10 := hB8.trans (hbq10.mono hB8.size)
        clear g2
        have g2 := (hbq10.cell (p := ⟨g, 2, none⟩) hgl).trans HR8.out
        refine hK _ _ (by simp [owed, left] <;> (and_intros <;> first | trivial | assumption)) ?_
        clear hK K
        try simp only [List.getElem_toArray, List.getElem_cons_succ, List.getElem_cons_zero, Act.put, List.setIfInBounds_toArray, List.set_cons_zero, List.set_cons_succ]
        iterate 3 (refine planE_pure (v := ?_) rfl (by rfl) (fun w' => ?_) ?_; rotate_left; (focus (simp only [List.getElem_toArray, List.getElem_cons_succ, List.getElem_cons_zero]; go_simp; first | with_reducible rfl | (simp (disch := omega) only [if_pos, if_neg, dif_pos, Result.andThen_ok]; try with_reducible rfl) | skip)); try simp only [List.getElem_toArray, List.getElem_cons_succ, List.getElem_cons_zero, Act.put, List.setIfInBounds_toArray, List.set_cons_zero, List.set_cons_succ])
        refine planE_end ?_
        go_wp2_with fail
        go_ret
        exact ⟨rfl, hB10⟩
    · obtain ⟨hff, hdd⟩ := HCH.out.2 hz
      clear HCH
      have HUS := Lib.hid (diskUsedC HDI.out hcE)
      have HDC := Lib.hid (fun w' (hb : Below w8.heap.size w8 w') => diskDownC (HDI.out.below hb))
      have HV5 : Hid (L5.map FRow.val = E.files) := Lib.hid (by rw [HV5.out, hff])
      have HFF : Hid (E.files = D.files) := Lib.hid hff
      rw [hff] at HUS
      have HRIS := Lib.hid HDI.out.ris
      generalize fsize D.files = fD at *
      by_cases h11 : code = 11
      · have hde : E.down = true := by rw [hdd, h11]; rfl
        subst h11
        rw [hde] at HDC
        clear hdd hff HFF hde
        go_wp2_with fail
        refine HUS.out.mono ?_
        rintro e w9 ⟨rfl, hb9⟩
        have hB9 := hB8.trans (hb9.mono hB8.size)
        have DC2 := Lib.hid (fun w' (hb : Below w9.heap.size w9 w') => HDC.out w' (hb9.trans (hb.mono hb9.size)))
        clear HUS
        go_wp2_with fail
        refine (HDC.out _ hb9).mono ?_
        rintro e w9' ⟨rfl, rfl⟩
        clear hb9 HDC
        go_wp2_with fail
        go_loopw [12] (fun sk wr => sk = .int .i64 (0 : Int) ∧ w9 = wr) (fun _ _ => 0)
        case atStart => exact ⟨rfl, rfl⟩
        case round =>
          obtain ⟨rfl, rfl⟩ := hrel
          by_cases h0 : 0 < L5.length
          · go_wp2_with fail
            refine (DC2.out _ (Below.refl _ _)).mono ?_
            rintro e w9' ⟨rfl, rfl⟩
            go_wp2_with fail
            go_ret
            exact ⟨rfl, hB9⟩
          · go_wp2_with fail
            go_ret
            exact ⟨rfl, hB9⟩
      · have hde : E.down = false := by rw [hdd]; exact decide_eq_false h11
        rw [hde] at HDC
        have HDN := Lib.hid hde
        have hcb : (code == 11) = false := by simpa using h11
        clear hdd hff HFF hde
        go_wp2_with fail
        refine HUS.out.mono ?_
        rintro e w9 ⟨rfl, hb9⟩
        have hB9 := hB8.trans (hb9.mono hB8.size)
        have HDI := Lib.hid (HDI.out.below hb9)
        have HO5 := Lib.hid (HO8.out.below hb9)
        have DC2 := Lib.hid (fun w' (hb : Below w9.heap.size w9 w') => HDC.out w' (hb9.trans (hb.mono hb9.size)))
        clear HUS
        go_wp2_with fail
        refine (HDC.out _ hb9).mono ?_
        rintro e w9' ⟨rfl, rfl⟩
        clear hb9 HDC
        go_wp2_with fail
        go_loopw [12] (fun sk wr => ∃ k : Nat, k ≤ L5.length ∧ sk = .int .i64 (k : Int) ∧ Below w9.heap.size w9 wr) (fun sk _ => L5.length - (intOf sk).toNat)
        case atStart => exact ⟨0, Nat.zero_le _, rfl, Below.refl _ _⟩
        case round =>
          obtain ⟨k, hk, rfl, hB⟩ := hrel
          by_cases hlt : k < L5.length
          · have hFO := HO5.out.below hB
            obtain ⟨bf, fo, hA5, hbf, f0, f1⟩ := hFO.rd.row hlt
            have HDF := Lib.hid (hFO.dat _ (List.getElem_mem hlt)).rb
            have hmf : L5[k].val ∈ (E).files := by rw [← HV5.out]; exact List.mem_map.2 ⟨_, List.getElem_mem hlt, rfl⟩
            obtain ⟨hre, hrb⟩ := readBack HDN.out HNM.out HRIS.out hmf
            have hre : readE (E) L5[k].name = 0 := hre
            have hrb : readB (E) L5[k].name = L5[k].data := hrb
            have hno : nameOk L5[k].name = true := HNM.out.files _ hmf
            have RD := Lib.hid (diskReadC L5[k].name (HDI.out.below hB) (by have := nameOk_len hno; omega))
            unfold ReadEnd at RD
            rw [hre, hrb] at RD
            generalize L5[k].name = nm at *
            generalize L5[k].data = dat at *
            generalize L5[k].A = fA at *
            generalize L5[k].c = fc at *
            subst hA5
            have hlt1 : k + 1 ≤ L5.length := hlt
            have HF1 := Lib.hid f1
            clear hFO hmf hno hre hrb f1
            go_wp2_with fail
            refine (DC2.out _ hB).mono ?_
            rintro e w9' ⟨rfl, rfl⟩
            go_wp2_with fail
            refine RD.out.mono ?_
            rintro e w6 ⟨A8, c8, rfl, ho8, hb8⟩
            have hbf6 := Nat.lt_of_lt_of_le hbf hb8.size
            have hB6 := hB.trans (hb8.mono hB.size)
            have HC8 := Lib.hid ho8.rb
            have HDF6 := Lib.hid (HDF.out.below hb8)
            have HG1 := Lib.hid (hb8.cell (p := ⟨bf, fo + k * 2 + 1, none⟩) hbf |>.trans HF1.out)
            clear f0 RD HDF HF1 ho8 hb8 hB
            go_wp2_with fail
            refine wp_region_planE_gen (by kernel_rfl) [(0, none), (1, none), (2, none), (3, none), (4, none), (5, none), (6, none), (7, none), (8, none), (9, none), (10, none), (11, none), (12, none)] (by kernel_rfl) (by kernel_rfl) (by decide) ?_
            intro wq hwq
            have hbq : Below w6.heap.size w6 wq := by rw [hwq]; exact (Below.refl _ _).drew
            have f1 := hbq.cell (p := ⟨bf, fo + k * 2 + 1, none⟩) hbf6 |>.trans HG1.out
            have hBq := hB6.trans (hbq.mono hB6.size)
            have HQ8 := Lib.hid (HC8.out.below hbq)
            have HQF := Lib.hid (HDF6.out.below hbq)
            clear hwq hbq
            iterate 4 (refine planE_pure (v := ?_) rfl (by rfl) (fun w' => ?_) ?_; rotate_left; (focus (simp only [List.getElem_toArray, List.getElem_cons_succ, List.getElem_cons_zero]; go_simp; first | with_reducible rfl | (simp (disch := omega) only [if_pos, if_neg, dif_pos, Result.andThen_ok]; try with_reducible rfl) | skip)); try simp only [List.getElem_toArray, List.getElem_cons_succ, List.getElem_cons_zero, Act.put, List.setIfInBounds_toArray, List.set_cons_zero, List.set_cons_succ])
            refine planE_read (v := ?_) (fun w' => (convert 23 9 (.slice A8 dat.length c8)).run Tryd.prog w' = .ok (.string ⟨dat.toArray⟩) w') rfl (by rfl) (fun w' hw' => ?_) (convB c8 HQ8.out) ?_; rotate_left; (focus (simp only [List.getElem_toArray, List.getElem_cons_succ, List.getElem_cons_zero]; go_simp; first | with_reducible rfl | (simp (disch := omega) only [if_pos, if_neg, dif_pos, Result.andThen_ok]; try with_reducible rfl) | skip)); try simp only [List.getElem_toArray, List.getElem_cons_succ, List.getElem_cons_zero, Act.put, List.setIfInBounds_toArray, List.set_cons_zero, List.set_cons_succ]
            iterate 4 (refine planE_pure (v := ?_) rfl (by rfl) (fun w' => ?_) ?_; rotate_left; (focus (simp only [List.getElem_toArray, List.getElem_cons_succ, List.getElem_cons_zero]; go_simp; first | with_reducible rfl | (simp (disch := omega) only [if_pos, if_neg, dif_pos, Result.andThen_ok]; try with_reducible rfl) | skip)); try simp only [List.getElem_toArray, List.getElem_cons_succ, List.getElem_cons_zero, Act.put, List.setIfInBounds_toArray, List.set_cons_zero, List.set_cons_succ])
            refine planE_cells (v := ?_) [(⟨bf, fo + k * 2 + 1, none⟩, .slice fA dat.length fc)] (by simp; and_intros <;> assumption) rfl (by rfl) (fun w' hw' => ?_) ?_; rotate_left; (focus (simp only [List.forall_mem_cons, List.not_mem_nil, false_imp_iff, implies_true, and_true] at hw'; simp only [List.getElem_toArray, List.getElem_cons_succ, List.getElem_cons_zero]; go_simp; first | with_reducible rfl | (simp (disch := omega) only [if_pos, if_neg, dif_pos, Result.andThen_ok]; try with_reducible rfl) | skip)); try simp only [List.getElem_toArray, List.getElem_cons_succ, List.getElem_cons_zero, Act.put, List.setIfInBounds_toArray, List.set_cons_zero, List.set_cons_succ]
            refine planE_read (v := ?_) (fun w' => (convert 23 9 (.slice fA dat.length fc)).run Tryd.prog w' = .ok (.string ⟨dat.toArray⟩) w') rfl (by rfl) (fun w' hw' => ?_) (convB fc HQF.out) ?_; rotate_left; (focus (simp only [List.getElem_toArray, List.getElem_cons_succ, List.getElem_cons_zero]; go_simp; first | with_reducible rfl | (simp (disch := omega) only [if_pos, if_neg, dif_pos, Result.andThen_ok]; try with_reducible rfl) | skip)); try simp only [List.getElem_toArray, List.getElem_cons_succ, List.getElem_cons_zero, Act.put, List.setIfInBounds_toArray, List.set_cons_zero, List.set_cons_succ]
            iterate 2 (refine planE_pure (v := ?_) rfl (by rfl) (fun w' => ?_) ?_; rotate_left; (focus (simp only [List.getElem_toArray, List.getElem_cons_succ, List.getElem_cons_zero]; go_simp; first | with_reducible rfl | (simp (disch := omega) only [if_pos, if_neg, dif_pos, Result.andThen_ok]; try with_reducible rfl) | skip)); try simp only [List.getElem_toArray, List.getElem_cons_succ, List.getElem_cons_zero, Act.put, List.setIfInBounds_toArray, List.set_cons_zero, List.set_cons_succ])
            refine planE_end ?_
            clear f1
            go_wp2_with fail
            go_roundw
            case rel => exact ⟨k + 1, hlt1, by go_num, hBq⟩
            case measure => simp [intOf]; omega
          · obtain rfl : k = L5.length := by omega
            go_wp2_with fail
            go_ret
            exact ⟨rfl, hB9.trans (hB.mono hB9.size)⟩
theorem walkDiskRoomR (room : Int) (X : Option Addr) (c : Nat) (L0 : List (List Fv)) (R : List Fv) (w : World) (hroom : I64 room) (hX : RS w X 5 (L0.map (·.map Fv.val))) (hL : L0.length ≤ 9223372036854775807) (hR : ∀ r ∈ L0, rowOk w actK r) (hr : rowOk w actK R) :
    Calls Tryd.prog 3 #[.int .i64 room, .slice X L0.length c, .agg (R.map Fv.val).toArray] w fun e w' => e = .returned (.bool true) ∧ Below w.heap.size w w' := by
  rw [← (afOf_ok hr).1]
  exact walkDiskRoom room X c L0 (afOf R) w hroom hX hL hR (afOf_ok hr).2
end Go.Proofs.YthdmnajcphaekaaDoor
