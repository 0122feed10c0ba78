/- Contract of the reference's Do: so many bytes. -/
import Derived.Test.YthdmnajcphaekaaDoorRefA
namespace Go.Proofs.YthdmnajcphaekaaDoor
open Go.RowKit

set_option maxRecDepth 20000 in
set_option maxHeartbeats 16000000 in
theorem refDo2 (X : Option Addr) (cx : Nat) (L : List FRow) (w : World) (c : Wr) (Y : Option Addr) (cy : Nat) (h : FRd w X L) (hY : RB w Y c.data) (hr : Rising (L.map FRow.val)) (hl : L.length ≤ 1900000) (hd : ∀ p ∈ L, p.data.length ≤ 140737488355328) (ho : c.off ≤ 4194304) (hcd : c.data.length ≤ 140737488355328) (hk : c.kind = 2) :
    Calls Tryd.prog 35 #[.slice X L.length cx, .agg (wrV c Y cy)] w (NewF w (doF (L.map FRow.val) c)) := by
  have hdo : doF (L.map FRow.val) c = fset (L.map FRow.val) c.name (resizeD ((fget (L.map FRow.val) c.name).getD []) c.off) := by unfold doF; rw [hk]; rfl
  have HT := Lib.hid (fun M => found_there (L := L) (M := M) (name := c.name) hr)
  have HN := Lib.hid (fun M => found_new (L := L) (M := M) (name := c.name) hr)
  have hple := fpos_le (L.map FRow.val) c.name
  rw [List.length_map] at hple
  have HLT := Lib.hid (fun h => fat_lt (F := L.map FRow.val) (n := c.name) h)
  rw [List.length_map] at HLT
  have HOLDL : Hid (((fget (L.map FRow.val) c.name).getD []).length ≤ 140737488355328) := Lib.hid (by
    cases hg : fget (L.map FRow.val) c.name with
    | none => simp
    | some l =>
      obtain ⟨p, hp, e⟩ := List.mem_map.1 (fget_mem hg)
      have := hd p hp
      injection e with _ e
      subst e
      exact this)
  obtain ⟨kind, name, off, data⟩ := c
  simp only at *
  subst hk
  have hal : Below w.heap.size w (w.alloc (.cells #[.int .i64 2, .string ⟨name.toArray⟩, .int .i64 (off : Int), .slice Y data.length cy] 73)) := (Below.refl _ _).alloc (Nat.le_refl _) _
  have hx := Blk.new w #[.int .i64 2, .string ⟨name.toArray⟩, .int .i64 (off : Int), .slice Y data.length cy] 73
  have HOWN := Lib.hid (refOwn' X cx L _ (h.below hal) (by omega) hd)
  obtain ⟨xb, hxb⟩ : ∃ xb, xb = w.heap.size := ⟨_, rfl⟩
  rw [← hxb] at hx
  have HXB := Lib.hid hxb
  have HDO := Lib.hid hdo
  clear h hd hxb hdo hY
  go_enter Tryd.func35, Tryd.ntmps35
  go_wp2_with fail
  rw [← HXB.out]
  generalize w.alloc (.cells #[.int .i64 2, .string ⟨name.toArray⟩, .int .i64 (off : Int), .slice Y data.length cy] 73) = w1 at *
  refine HOWN.out.mono ?_
  rintro e w2 ⟨A, ca, L2, rfl, hval, hO, hb2⟩
  have hB2 := hal.trans (hb2.mono hal.size)
  have hx2 := hx.kept hb2
  have hO2 := hO.base_le hal.size
  have HL2 : Hid (L2.length = L.length) := Lib.hid (by have := congrArg List.length hval.out; simpa using this)
  have hl2' : L2.length ≤ 1900000 := by rw [HL2.out]; exact hl
  have FIND := Lib.hid (refFind A ca L2 name w2 hO2.rd (by omega))
  rw [hval.out] at FIND
  have y1 := hx2.cell 1 rfl
  have HO2 := Lib.hid hO2
  clear hO hb2 hx HOWN hal hO2
  go_wp2_with fail
  refine FIND.out.mono ?_
  rintro e w3 ⟨rfl, hb3⟩
  have hB3 := hB2.trans (hb3.mono hB2.size)
  have hx3 := hx2.kept hb3
  have HO3 := Lib.hid (HO2.out.below hb3)
  clear y1 hb3 hx2 HO2 FIND hB2
  have y0 := hx3.cell 0 rfl
  have HT2 := Lib.hid (HT.out L2 hval.out)
  have HN2 := Lib.hid (HN.out L2 hval.out)
  clear HT HN
  obtain ⟨i, hi⟩ : ∃ i, i = fpos (L.map FRow.val) name := ⟨_, rfl⟩
  obtain ⟨old, hold⟩ : ∃ old, old = (fget (L.map FRow.val) name).getD [] := ⟨_, rfl⟩
  rw [← hi] at HT2 HN2 hple HLT ⊢
  rw [← hold] at HT2 HN2 HDO HOLDL
  clear hi hold
  have hile : i ≤ L2.length := by rw [HL2.out]; exact hple
  have hol := HOLDL.out
  clear HOLDL hple
  cases hat : fat (L.map FRow.val) name
  case true =>
    have hilt : i < L2.length := by rw [HL2.out]; exact HLT.out hat
    obtain ⟨b5, rfl, _, _⟩ := HO3.out.row.head' (by simp; omega)
    have HF5 := Lib.hid (HT2.out hat)
    have HO5 := HO3
    have hB5 := hB3
    have hx5 := hx3
    obtain ⟨c5, hc5⟩ : ∃ c5, c5 = ca := ⟨_, rfl⟩
    obtain ⟨L5, hL5⟩ : ∃ L5, L5 = L2 := ⟨_, rfl⟩
    subst hc5 hL5
    clear hat HLT HT2 HN2 HL2 hval HO3 hB3 hx3 y0
    have y0 := hx5.cell 0 rfl
    obtain ⟨hi5, hod, hset⟩ := HF5.out
    have HSET := Lib.hid hset
    have HI := Lib.hid (DoI.start HO5.out hB5 hB5.size hx5 hi5)
    obtain ⟨bb, bo, ebb, _, _, c1⟩ := HO5.out.rd.row hi5
    injection ebb with ebb
    injection ebb with eb1 eb2 _
    subst eb1 eb2
    rw [hod] at HI c1
    rw [Nat.zero_add] at c1
    have HNM : Hid (∀ lb B cb w', FO w.heap.size w' (some ⟨b5, 0, none⟩) c5 (L5.set i ⟨L5[i].name, B, cb, lb⟩) → Below w.heap.size w w' → lb = resizeD old off → NewF w (doF (L.map FRow.val) ⟨2, name, off, data⟩) (.returned (.slice (some ⟨b5, 0, none⟩) L5.length c5)) w') := Lib.hid fun lb B cb w' ho hb he => by
      subst he
      exact ⟨_, c5, _, by rw [List.length_set], Lib.hid (by rw [HDO.out]; exact HSET.out B cb _), ho, hb⟩
    generalize L5[i].A = B0 at *
    generalize L5[i].c = cb0 at *
    clear HO5 hB5 hx5 HF5 hod hset HDO HSET
    go_wp2_with fail
    go_loopw [9] (fun s9 wr => ∃ (B : Option Addr) (cb : Nat) (lb : List UInt8), s9 = .slice B lb.length cb ∧ Hid (lb = resizeD old lb.length) ∧ old.length ≤ lb.length ∧ (lb.length ≤ old.length ∨ lb.length ≤ off) ∧ Hid (DoI w.heap.size w wr xb #[.int .i64 2, .string ⟨name.toArray⟩, .int .i64 (off : Int), .slice Y data.length cy] i L5 (some ⟨b5, 0, none⟩) c5 B cb lb)) (fun s9 _ => off - slen s9)
    case atStart => exact ⟨B0, cb0, old, rfl, Lib.hid (resize_self old).symm, Nat.le_refl _, .inl (Nat.le_refl _), HI⟩
    case round =>
      obtain ⟨B, cb, lb, rfl, hlb, hge, hle, HR⟩ := hrel
      clear HI c1
      have y2 := HR.out.blk.cell 2 rfl
      have y3 := HR.out.blk.cell 3 rfl
      by_cases hlt : lb.length < off
      · have hba : Below wr.heap.size wr (wr.alloc (.cells #[.int .u8 0] 5)) := (Below.refl _ _).alloc (Nat.le_refl _) _
        have HR2 := Lib.hid (HR.out.below' hba)
        have HRE : Hid (resizeD old lb.length ++ [0] = resizeD old (lb.length + 1)) := Lib.hid (resize_grow old lb.length hge)
        have hcell : (wr.alloc (.cells #[.int .u8 0] 5)).cell? ⟨wr.heap.size, 0, none⟩ = some (.int .u8 (((0 : UInt8)).toNat : Int)) := by
          exact (Blk.new wr #[.int .u8 0] 5).cell 0 rfl
        have HC := Lib.hid hcell
        clear hba HR hcell
        go_wp2_with (at_builtin; refine wp_append1W _ rfl (.tmp 63) (.tmp 64) rfl w.heap.size B cb wr.heap.size lb 0 rfl rfl HR2.out.own HC.out (by omega) HR2.out.size ?_; intro lb2 B2 cb2 w4 hk hk1 hk2 hob hg hat)
        have HR3 := Lib.hid (HR2.out.grow hob hg hat)
        have HK : Hid (lb2 = resizeD old lb2.length) := Lib.hid (by
          have e1 := hk.out
          have e2 : lb2.length = lb.length + 1 := by omega
          rw [e2, e1]
          have := HRE.out
          rw [← hlb.out] at this
          exact this)
        clear hk hob hg hat HR2 HC HRE hlb
        go_roundw
        case rel => exact ⟨B2, cb2, lb2, rfl, HK, by omega, .inr (by omega), HR3⟩
        case measure => simp [slen]; omega
      · have hge2 : off ≤ lb.length := by omega
        obtain ⟨hcap, hcap2⟩ := HR.out.own.cap
        have hoc : off ≤ cb := by omega
        obtain ⟨b0, b1, eb0, _, _, d1⟩ : ∃ b0 b1, (some (⟨b5, 0, none⟩ : Addr)) = some ⟨b0, b1, none⟩ ∧ True ∧ True ∧ wr.cell? ⟨b5, i * 2 + 1, none⟩ ≠ none := ⟨b5, 0, rfl, trivial, trivial, HR.out.cell_some hi5⟩
        have fr : wr.frozen? ⟨b5, i * 2 + 1, none⟩ = false := HR.out.row.free rfl _
        obtain ⟨v1, hv1⟩ := Option.ne_none_iff_exists'.1 d1
        clear d1 eb0
        have HST := Lib.hid (HR.out.store hi5 (HR.out.own.take off))
        have HTL : Hid ((lb.take off).length = off ∧ lb.take off = resizeD old off) := Lib.hid ⟨by rw [List.length_take]; omega, by rw [hlb.out]; exact resize_take old _ _ hge2⟩
        have HFIN : Hid (NewF w (doF (L.map FRow.val) ⟨2, name, off, data⟩) (.returned (.slice (some ⟨b5, 0, none⟩) L5.length c5)) (wr.setCell ⟨b5, i * 2 + 1, none⟩ (.slice B off cb))) := Lib.hid (by
          have := HNM.out _ B cb _ HST.out.1 HST.out.2 HTL.out.2
          rw [HTL.out.1] at this
          exact this)
        have hform := HR.out.own.form
        clear HR hlb HST HTL HNM
        rcases hform with ⟨rfl, rfl, rfl⟩ | ⟨gB, rfl, _, _, _, _⟩
        · obtain rfl : off = 0 := by simpa using hge2
          go_wp2_with fail
          go_ret
          exact HFIN.out
        · go_wp2_with fail
          go_ret
          exact HFIN.out
  case false =>
    have hform := HO3.out.row.form
    rcases hform with ⟨rfl, rfl, hL0⟩ | ⟨b, rfl, _, _, _, _⟩
    · have hL0' : L2 = [] := by simpa using hL0
      subst hL0'
      clear hL0
      obtain rfl : i = 0 := Nat.le_zero.1 hile
      have hba : Below w3.heap.size w3 (w3.alloc (.cells #[] 46)) := (Below.refl _ _).alloc (Nat.le_refl _) _
      have hOE := OR.made0 w3 46 2 (Nat.le_refl w3.heap.size)
      have HO3' := Lib.hid (HO3.out.below hba)
      have HX3' := Lib.hid (hx3.kept hba)
      have hB3' := hB3.trans (hba.mono hB3.size)
      have HXLT : Hid (xb < w3.heap.size) := Lib.hid hx3.lt
      have HALT : Hid (∀ g, (none : Option Addr).map (·.block) = some g → g < w3.heap.size) := Lib.hid fun g hg => (HO3.out.row.blk_lt g hg).2
      have HDLT : Hid (∀ p ∈ ([] : List FRow), ∀ g, p.A.map (·.block) = some g → g < w3.heap.size) := Lib.hid fun p hp g hg => ((HO3.out.dat p hp).blk_lt g hg).2
      have HF5 := Lib.hid (HN2.out hat)
      have HSE := Lib.hid hB3.size
      have hebl : w3.heap.size ≤ (w3.alloc (.cells #[] 46)).heap.size := by simp
      clear hat HLT HT2 HN2 HL2 hval hB3 hx3 hba HO3
      obtain ⟨i0, hi0, hz0, hz1, hz2⟩ := info_parts file_info
      go_wp2_with (at_builtin; refine wp_appendS _ rfl (.tmp 35) (.tmp 38) 34 46 rfl Tryd.underlying34 hi0 hz0 hz1 hz2 rfl (by decide) w3.heap.size (some ⟨w3.heap.size, 0, none⟩) none 0 0 [] [] rfl rfl hOE RS.nil (by simp) (by simp) (by simp <;> omega) (by simp <;> omega) hebl ?_; intro rs Ar cr w4 hrs hr1 hr2 hrest hg4 hA4)
      have HRS : Hid (rs = []) := Lib.hid (by simpa using hrs.out)
      have HO4 : Hid (FO w.heap.size w4 none 0 []) := Lib.hid (HO3'.out.grown_row hg4 (fun g hg e => by injection hg with hg; have := HALT.out g e; simp at hg; omega) (fun p hp g hg e => by injection hg with hg; have := HDLT.out p hp g e; simp at hg; omega))
      have hx4 := HX3'.out.grown hg4 (fun e => by injection e with e; have := HXLT.out; simp at e; omega)
      have hB4 := hB3'.grown hg4 hB3'.size (fun g hg => by injection hg with hg; have := HSE.out; simp at hg; omega)
      have hrl : rs.length ≤ 1900000 := by simp at hr1 <;> first | omega | (rw [hr1]; simp)
      clear hrs hg4 hA4 HO3' HX3' hB3' hOE hebl y0 hr1 hr2
      generalize w3.heap.size = eb at *
      refine wp_region_planE_gen (by kernel_rfl) [(0, none), (1, none), (2, none), (3, none), (4, none), (5, none), (8, none), (6, some [5]), (7, some [2]), (9, some [8]), (10, none)] (by kernel_rfl) (by kernel_rfl) (by decide) ?_
      intro wq hwq
      have hbq : Below w4.heap.size w4 wq := by rw [hwq]; exact (Below.refl _ _).drew
      have hBq := hB4.trans (hbq.mono hB4.size)
      have HOq := Lib.hid (HO4.out.below hbq)
      have hRq := hrest.below hbq
      have hxq := hx4.kept hbq
      have y1 := hxq.cell 1 rfl
      clear hwq hbq HO4 hB4 hx4 hrest
      iterate 4 (refine planE_pure (v := ?_) rfl (by rfl) (fun w' => ?_) ?_; rotate_left; (focus (simp only [List.getElem_toArray, List.getElem_cons_succ, List.getElem_cons_zero]; go_simp; first | with_reducible rfl | (simp (disch := omega) only [if_pos, if_neg, dif_pos, Result.andThen_ok]; try with_reducible rfl) | skip)); try simp only [List.getElem_toArray, List.getElem_cons_succ, List.getElem_cons_zero, Act.put, List.setIfInBounds_toArray, List.set_cons_zero, List.set_cons_succ])
      refine planE_cells (v := ?_) [(⟨xb, 1, none⟩, .string ⟨name.toArray⟩)] (by simp; and_intros <;> assumption) rfl (by rfl) (fun w' hw' => ?_) ?_; rotate_left; (focus (simp only [List.forall_mem_cons, List.not_mem_nil, false_imp_iff, implies_true, and_true] at hw'; simp only [List.getElem_toArray, List.getElem_cons_succ, List.getElem_cons_zero]; go_simp; first | with_reducible rfl | (simp (disch := omega) only [if_pos, if_neg, dif_pos, Result.andThen_ok]; try with_reducible rfl) | skip)); try simp only [List.getElem_toArray, List.getElem_cons_succ, List.getElem_cons_zero, Act.put, List.setIfInBounds_toArray, List.set_cons_zero, List.set_cons_succ]
      iterate 2 (refine planE_pure (v := ?_) rfl (by rfl) (fun w' => ?_) ?_; rotate_left; (focus (simp only [List.getElem_toArray, List.getElem_cons_succ, List.getElem_cons_zero]; go_simp; first | with_reducible rfl | (simp (disch := omega) only [if_pos, if_neg, dif_pos, Result.andThen_ok]; try with_reducible rfl) | skip)); try simp only [List.getElem_toArray, List.getElem_cons_succ, List.getElem_cons_zero, Act.put, List.setIfInBounds_toArray, List.set_cons_zero, List.set_cons_succ])
      refine planE_eff rfl (by rfl) (fun K hK => ?_)
      go_simp
      have hb2 : Below wq.heap.size wq (wq.alloc (.cells #[.string ⟨name.toArray⟩, .slice none 0 0] 46)) := (Below.refl _ _).alloc (Nat.le_refl _) _
      have hL6 := Blk.new wq #[.string ⟨name.toArray⟩, .slice none 0 0] 46
      have hB6 := hBq.trans (hb2.mono hBq.size)
      have HO6 := Lib.hid (HOq.out.below hb2)
      have hR6 := hRq.below hb2
      have hx6 := hxq.kept hb2
      obtain ⟨lb, hlb⟩ : ∃ lb, lb = wq.heap.size := ⟨_, rfl⟩
      rw [← hlb] at hL6 ⊢
      generalize wq.alloc (.cells #[.string ⟨name.toArray⟩, .slice none 0 0] 46) = w6 at *
      clear y1 hb2 hBq hlb HOq hRq hxq
      have y1 := hx6.cell 1 rfl
      refine hK _ _ (by simp [owed, left] <;> (and_intros <;> first | trivial | assumption)) ?_
      clear hK K
      try simp only [List.getElem_toArray, List.getElem_cons_succ, List.getElem_cons_zero, Act.put, List.setIfInBounds_toArray, List.set_cons_zero, List.set_cons_succ]
      refine planE_eff rfl (by rfl) (fun K hK => ?_)
      refine op_appendS w6 (.tmp 42) (.tmp 46) 34 46 (by rfl) Tryd.underlying34 hi0 hz0 hz1 hz2 rfl (by decide) w.heap.size none (some ⟨lb, 0, none⟩) 0 1 [] [[.string ⟨name.toArray⟩, .slice none 0 0]] (by rfl) (by rfl) HO6.out.row (RS.lit hL6) (by simp) (by simp [Value.oneCell']) (by simp <;> omega) (by simp <;> omega) hB6.size ?_
      intro ys A7 c7 w7 hys hy1 hy2 hrow7 hg7 hA7
      have hB7 := hB6.grown hg7 hB6.size (fun g hg => (HO6.out.row.blk_lt g hg).1)
      have hR7 := hR6.grown_row hg7 (fun g hg e => by have := HALT.out g hg; have := (hR6.blk_lt g e).1; omega)
      have hx7 := hx6.grown hg7 (HO6.out.row.ne_var hx6 (by decide))
      have HD7 : Hid (∀ p ∈ ([] : List FRow), OB w7 w.heap.size p.A p.c p.data) := Lib.hid fun p hp => (HO6.out.dat p hp).grown_row hg7 ((HO6.out.dat p hp).ne_row HO6.out.row (by decide))
      have HAP := Lib.hid HO6.out.apart
      have HY := Lib.hid hys.out
      have hyl : ys.length ≤ 1900001 := by simp at hy1 <;> omega
      clear y1 HO6 hg7 hA7 hL6 hB6 hR6 hx6 hys hy1 hy2
      have y1 := hx7.cell 1 rfl
      refine hK _ _ (by simp [owed, left] <;> (and_intros <;> first | trivial | assumption)) ?_
      clear hK K
      try simp only [List.getElem_toArray, List.getElem_cons_succ, List.getElem_cons_zero, Act.put, List.setIfInBounds_toArray, List.set_cons_zero, List.set_cons_succ]
      refine planE_eff rfl (by rfl) (fun K hK => ?_)
      refine op_appendS w7 (.tmp 47) (.tmp 48) 34 46 (by rfl) Tryd.underlying34 hi0 hz0 hz1 hz2 rfl (by decide) w.heap.size A7 Ar c7 cr ys rs (by rfl) (by rfl) hrow7 hR7.rs hR7.2 (by rw [HRS.out]; exact (by simp)) (by omega) (by omega) hB7.size ?_
      intro zs A8 c8 w8 hzs hz1' hz2' hrow8 hg8 hA8
      have hB8 := hB7.grown hg8 hB7.size (fun g hg => (hrow7.blk_lt g hg).1)
      have hx8 := hx7.grown hg8 (hrow7.ne_var hx7 (by decide))
      have hmem : ∀ p ∈ (([] : List FRow).take 0 ++ ⟨name, none, 0, []⟩ :: ([] : List FRow).drop 0 : List FRow), p = ⟨name, none, 0, []⟩ ∨ p ∈ ([] : List FRow) := fun p hp => by
        simpa using hp
      have HZ : Hid (zs = (([] : List FRow).take 0 ++ ⟨name, none, 0, []⟩ :: ([] : List FRow).drop 0 : List FRow).map FRow.cells) := Lib.hid (by
        rw [hzs.out, HY.out, HRS.out]
        simp [FRow.cells])
      have HO8 : Hid (FO w.heap.size w8 A8 c8 (([] : List FRow).take 0 ++ ⟨name, none, 0, []⟩ :: ([] : List FRow).drop 0 : List FRow)) := Lib.hid ⟨by rw [← HZ.out]; exact hrow8, fun p hp => by
        rcases hmem p hp with rfl | hp
        · exact OB.nil _ _
        · exact (HD7.out p hp).grown_row hg8 ((HD7.out p hp).ne_row hrow7 (by decide)), by
        exact apart_ins HAP.out 0⟩
      have HZL : Hid (zs.length = (([] : List FRow).take 0 ++ ⟨name, none, 0, []⟩ :: ([] : List FRow).drop 0 : List FRow).length) := Lib.hid (by rw [HZ.out, List.length_map])
      clear y1 hzs hz1' hz2' hrow8 hg8 hA8 HY HZ hmem HD7 HAP hrow7 hR7 hx7 hB7
      have y1 := hx8.cell 1 rfl
      rw [HZL.out]
      generalize hL5 : (([] : List FRow).take 0 ++ ⟨name, none, 0, []⟩ :: ([] : List FRow).drop 0 : List FRow) = L5 at *
      refine hK _ _ (by simp [owed, left] <;> (and_intros <;> first | trivial | assumption)) ?_
      clear hK K
      try simp only [List.getElem_toArray, List.getElem_cons_succ, List.getElem_cons_zero, Act.put, List.setIfInBounds_toArray, List.set_cons_zero, List.set_cons_succ]
      iterate 1 (refine planE_pure (v := ?_) rfl (by rfl) (fun w' => ?_) ?_; rotate_left; (focus (simp only [List.getElem_toArray, List.getElem_cons_succ, List.getElem_cons_zero]; go_simp; first | with_reducible rfl | (simp (disch := omega) only [if_pos, if_neg, dif_pos, Result.andThen_ok]; try with_reducible rfl) | skip)); try simp only [List.getElem_toArray, List.getElem_cons_succ, List.getElem_cons_zero, Act.put, List.setIfInBounds_toArray, List.set_cons_zero, List.set_cons_succ])
      refine planE_end ?_
      obtain ⟨b5, rfl, _, _⟩ := HO8.out.row.head' (by rw [List.length_map, ← hL5]; simp <;> omega)
      have HO5 := HO8
      have hB5 := hB8
      have hx5 := hx8
      obtain ⟨c5, hc5⟩ : ∃ c5, c5 = c8 := ⟨_, rfl⟩
      subst hc5
      clear HO8 hB8 hx8 HZL hL5 HRS y1 hyl HALT HDLT HXLT HSE hz0 hz1 hz2
      have y0 := hx5.cell 0 rfl
      obtain ⟨hi5, hod, hset⟩ := HF5.out
      have HSET := Lib.hid hset
      have HI := Lib.hid (DoI.start HO5.out hB5 hB5.size hx5 hi5)
      obtain ⟨bb, bo, ebb, _, _, c1⟩ := HO5.out.rd.row hi5
      injection ebb with ebb
      injection ebb with eb1 eb2 _
      subst eb1 eb2
      rw [hod] at HI c1
      rw [Nat.zero_add] at c1
      have HNM : Hid (∀ lb B cb w', FO w.heap.size w' (some ⟨b5, 0, none⟩) c5 (L5.set 0 ⟨L5[0].name, B, cb, lb⟩) → Below w.heap.size w w' → lb = resizeD old off → NewF w (doF (L.map FRow.val) ⟨2, name, off, data⟩) (.returned (.slice (some ⟨b5, 0, none⟩) L5.length c5)) w') := Lib.hid fun lb B cb w' ho hb he => by
        subst he
        exact ⟨_, c5, _, by rw [List.length_set], Lib.hid (by rw [HDO.out]; exact HSET.out B cb _), ho, hb⟩
      generalize L5[0].A = B0 at *
      generalize L5[0].c = cb0 at *
      clear HO5 hB5 hx5 HF5 hod hset HDO HSET
      go_wp2_with fail
      go_loopw [9] (fun s9 wr => ∃ (B : Option Addr) (cb : Nat) (lb : List UInt8), s9 = .slice B lb.length cb ∧ Hid (lb = resizeD old lb.length) ∧ old.length ≤ lb.length ∧ (lb.length ≤ old.length ∨ lb.length ≤ off) ∧ Hid (DoI w.heap.size w wr xb #[.int .i64 2, .string ⟨name.toArray⟩, .int .i64 (off : Int), .slice Y data.length cy] 0 L5 (some ⟨b5, 0, none⟩) c5 B cb lb)) (fun s9 _ => off - slen s9)
      case atStart => exact ⟨B0, cb0, old, rfl, Lib.hid (resize_self old).symm, Nat.le_refl _, .inl (Nat.le_refl _), HI⟩
      case round =>
        obtain ⟨B, cb, lb, rfl, hlb, hge, hle, HR⟩ := hrel
        clear HI c1
        have y2 := HR.out.blk.cell 2 rfl
        have y3 := HR.out.blk.cell 3 rfl
        by_cases hlt : lb.length < off
        · have hba : Below wr.heap.size wr (wr.alloc (.cells #[.int .u8 0] 5)) := (Below.refl _ _).alloc (Nat.le_refl _) _
          have HR2 := Lib.hid (HR.out.below' hba)
          have HRE : Hid (resizeD old lb.length ++ [0] = resizeD old (lb.length + 1)) := Lib.hid (resize_grow old lb.length hge)
          have hcell : (wr.alloc (.cells #[.int .u8 0] 5)).cell? ⟨wr.heap.size, 0, none⟩ = some (.int .u8 (((0 : UInt8)).toNat : Int)) := by
            exact (Blk.new wr #[.int .u8 0] 5).cell 0 rfl
          have HC := Lib.hid hcell
          clear hba HR hcell
          go_wp2_with (at_builtin; refine wp_append1W _ rfl (.tmp 63) (.tmp 64) rfl w.heap.size B cb wr.heap.size lb 0 rfl rfl HR2.out.own HC.out (by omega) HR2.out.size ?_; intro lb2 B2 cb2 w4 hk hk1 hk2 hob hg hat)
          have HR3 := Lib.hid (HR2.out.grow hob hg hat)
          have HK : Hid (lb2 = resizeD old lb2.length) := Lib.hid (by
            have e1 := hk.out
            have e2 : lb2.length = lb.length + 1 := by omega
            rw [e2, e1]
            have := HRE.out
            rw [← hlb.out] at this
            exact this)
          clear hk hob hg hat HR2 HC HRE hlb
          go_roundw
          case rel => exact ⟨B2, cb2, lb2, rfl, HK, by omega, .inr (by omega), HR3⟩
          case measure => simp [slen]; omega
        · have hge2 : off ≤ lb.length := by omega
          obtain ⟨hcap, hcap2⟩ := HR.out.own.cap
          have hoc : off ≤ cb := by omega
          obtain ⟨b0, b1, eb0, _, _, d1⟩ : ∃ b0 b1, (some (⟨b5, 0, none⟩ : Addr)) = some ⟨b0, b1, none⟩ ∧ True ∧ True ∧ wr.cell? ⟨b5, 1, none⟩ ≠ none := ⟨b5, 0, rfl, trivial, trivial, HR.out.cell_some hi5⟩
          have fr : wr.frozen? ⟨b5, 1, none⟩ = false := HR.out.row.free rfl _
          obtain ⟨v1, hv1⟩ := Option.ne_none_iff_exists'.1 d1
          clear d1 eb0
          have HST := Lib.hid (HR.out.store hi5 (HR.out.own.take off))
          have HTL : Hid ((lb.take off).length = off ∧ lb.take off = resizeD old off) := Lib.hid ⟨by rw [List.length_take]; omega, by rw [hlb.out]; exact resize_take old _ _ hge2⟩
          have HFIN : Hid (NewF w (doF (L.map FRow.val) ⟨2, name, off, data⟩) (.returned (.slice (some ⟨b5, 0, none⟩) L5.length c5)) (wr.setCell ⟨b5, 1, none⟩ (.slice B off cb))) := Lib.hid (by
            have := HNM.out _ B cb _ HST.out.1 HST.out.2 HTL.out.2
            rw [HTL.out.1] at this
            exact this)
          have hform := HR.out.own.form
          clear HR hlb HST HTL HNM
          rcases hform with ⟨rfl, rfl, rfl⟩ | ⟨gB, rfl, _, _, _, _⟩
          · obtain rfl : off = 0 := by simpa using hge2
            go_wp2_with fail
            go_ret
            exact HFIN.out
          · go_wp2_with fail
            go_ret
            exact HFIN.out
    · by_cases hcc : i < ca
      · have hcap := HO3.out.row.cap
        rw [List.length_map] at hcap
        obtain ⟨hcap, hcap2⟩ := hcap
        have hlcf : ¬ L2.length < i := by omega
        have hdl : ((L2.drop i).map FRow.cells).length = L2.length - i := by simp
        have htl : ((L2.take i).map FRow.cells).length = i := by simp; omega
        have hba : Below w3.heap.size w3 (w3.alloc (.cells #[] 46)) := (Below.refl _ _).alloc (Nat.le_refl _) _
        have hOE := OR.made0 w3 46 2 (Nat.le_refl w3.heap.size)
        have HO3' := Lib.hid (HO3.out.below hba)
        have HX3' := Lib.hid (hx3.kept hba)
        have hB3' := hB3.trans (hba.mono hB3.size)
        have HXLT : Hid (xb < w3.heap.size) := Lib.hid hx3.lt
        have HALT : Hid (∀ g, ((some ⟨b, 0, none⟩) : Option Addr).map (·.block) = some g → g < w3.heap.size) := Lib.hid fun g hg => (HO3.out.row.blk_lt g hg).2
        have HDLT : Hid (∀ p ∈ (L2 : List FRow), ∀ g, p.A.map (·.block) = some g → g < w3.heap.size) := Lib.hid fun p hp g hg => ((HO3.out.dat p hp).blk_lt g hg).2
        have HF5 := Lib.hid (HN2.out hat)
        have HSE := Lib.hid hB3.size
        have hebl : w3.heap.size ≤ (w3.alloc (.cells #[] 46)).heap.size := by simp
        clear hat HLT HT2 HN2 HL2 hval hB3 hx3 hba HO3
        obtain ⟨i0, hi0, hz0, hz1, hz2⟩ := info_parts file_info
        go_wp2_with (at_builtin; refine wp_appendS _ rfl (.tmp 35) (.tmp 38) 34 46 rfl Tryd.underlying34 hi0 hz0 hz1 hz2 rfl (by decide) w3.heap.size (some ⟨w3.heap.size, 0, none⟩) (some ⟨b, i * 2, none⟩) 0 (ca - i) [] ((L2.drop i).map FRow.cells) rfl (by rw [hdl]; rfl) hOE (by have := HO3'.out.row.rs.drop i; rw [Nat.zero_add] at this; rw [List.map_drop]; exact this) (fun r hr => cells_len _ r hr) (by intro r hr v hv; obtain ⟨p, _, rfl⟩ := List.mem_map.1 hr; simp [FRow.cells] at hv; rcases hv with rfl | rfl <;> rfl) (by simp <;> omega) (by simp <;> omega) hebl ?_; intro rs Ar cr w4 hrs hr1 hr2 hrest hg4 hA4)
        have HRS : Hid (rs = ((L2.drop i).map FRow.cells)) := Lib.hid (by simpa using hrs.out)
        have HO4 : Hid (FO w.heap.size w4 (some ⟨b, 0, none⟩) ca L2) := Lib.hid (HO3'.out.grown_row hg4 (fun g hg e => by injection hg with hg; have := HALT.out g e; simp at hg; omega) (fun p hp g hg e => by injection hg with hg; have := HDLT.out p hp g e; simp at hg; omega))
        have hx4 := HX3'.out.grown hg4 (fun e => by injection e with e; have := HXLT.out; simp at e; omega)
        have hB4 := hB3'.grown hg4 hB3'.size (fun g hg => by injection hg with hg; have := HSE.out; simp at hg; omega)
        have hrl : rs.length ≤ 1900000 := by simp at hr1 <;> first | omega | (rw [hr1]; simp)
        clear hrs hg4 hA4 HO3' HX3' hB3' hOE hebl y0 hr1 hr2
        generalize w3.heap.size = eb at *
        refine wp_region_planE_gen (by kernel_rfl) [(0, none), (1, none), (2, none), (3, none), (4, none), (5, none), (8, none), (6, some [5]), (7, some [2]), (9, some [8]), (10, none)] (by kernel_rfl) (by kernel_rfl) (by decide) ?_
        intro wq hwq
        have hbq : Below w4.heap.size w4 wq := by rw [hwq]; exact (Below.refl _ _).drew
        have hBq := hB4.trans (hbq.mono hB4.size)
        have HOq := Lib.hid (HO4.out.below hbq)
        have hRq := hrest.below hbq
        have hxq := hx4.kept hbq
        have y1 := hxq.cell 1 rfl
        clear hwq hbq HO4 hB4 hx4 hrest
        iterate 4 (refine planE_pure (v := ?_) rfl (by rfl) (fun w' => ?_) ?_; rotate_left; (focus (simp only [List.getElem_toArray, List.getElem_cons_succ, List.getElem_cons_zero]; go_simp; first | with_reducible rfl | (simp (disch := omega) only [if_pos, if_neg, dif_pos, Result.andThen_ok]; try with_reducible rfl) | skip)); try simp only [List.getElem_toArray, List.getElem_cons_succ, List.getElem_cons_zero, Act.put, List.setIfInBounds_toArray, List.set_cons_zero, List.set_cons_succ])
        refine planE_cells (v := ?_) [(⟨xb, 1, none⟩, .string ⟨name.toArray⟩)] (by simp; and_intros <;> assumption) rfl (by rfl) (fun w' hw' => ?_) ?_; rotate_left; (focus (simp only [List.forall_mem_cons, List.not_mem_nil, false_imp_iff, implies_true, and_true] at hw'; simp only [List.getElem_toArray, List.getElem_cons_succ, List.getElem_cons_zero]; go_simp; first | with_reducible rfl | (simp (disch := omega) only [if_pos, if_neg, dif_pos, Result.andThen_ok]; try with_reducible rfl) | skip)); try simp only [List.getElem_toArray, List.getElem_cons_succ, List.getElem_cons_zero, Act.put, List.setIfInBounds_toArray, List.set_cons_zero, List.set_cons_succ]
        iterate 2 (refine planE_pure (v := ?_) rfl (by rfl) (fun w' => ?_) ?_; rotate_left; (focus (simp only [List.getElem_toArray, List.getElem_cons_succ, List.getElem_cons_zero]; go_simp; first | with_reducible rfl | (simp (disch := omega) only [if_pos, if_neg, dif_pos, Result.andThen_ok]; try with_reducible rfl) | skip)); try simp only [List.getElem_toArray, List.getElem_cons_succ, List.getElem_cons_zero, Act.put, List.setIfInBounds_toArray, List.set_cons_zero, List.set_cons_succ])
        refine planE_eff rfl (by rfl) (fun K hK => ?_)
        go_simp
        have hb2 : Below wq.heap.size wq (wq.alloc (.cells #[.string ⟨name.toArray⟩, .slice none 0 0] 46)) := (Below.refl _ _).alloc (Nat.le_refl _) _
        have hL6 := Blk.new wq #[.string ⟨name.toArray⟩, .slice none 0 0] 46
        have hB6 := hBq.trans (hb2.mono hBq.size)
        have HO6 := Lib.hid (HOq.out.below hb2)
        have hR6 := hRq.below hb2
        have hx6 := hxq.kept hb2
        obtain ⟨lb, hlb⟩ : ∃ lb, lb = wq.heap.size := ⟨_, rfl⟩
        rw [← hlb] at hL6 ⊢
        generalize wq.alloc (.cells #[.string ⟨name.toArray⟩, .slice none 0 0] 46) = w6 at *
        clear y1 hb2 hBq hlb HOq hRq hxq
        have y1 := hx6.cell 1 rfl
        refine hK _ _ (by simp [owed, left] <;> (and_intros <;> first | trivial | assumption)) ?_
        clear hK K
        try simp only [List.getElem_toArray, List.getElem_cons_succ, List.getElem_cons_zero, Act.put, List.setIfInBounds_toArray, List.set_cons_zero, List.set_cons_succ]
        refine planE_eff rfl (by rfl) (fun K hK => ?_)
        refine op_appendS w6 (.tmp 42) (.tmp 46) 34 46 (by rfl) Tryd.underlying34 hi0 hz0 hz1 hz2 rfl (by decide) w.heap.size (some ⟨b, 0, none⟩) (some ⟨lb, 0, none⟩) ca 1 ((L2.take i).map FRow.cells) [[.string ⟨name.toArray⟩, .slice none 0 0]] (by rw [htl]; rfl) (by rfl) (by rw [List.map_take]; exact HO6.out.row.take i) (RS.lit hL6) (by simp) (by simp [Value.oneCell']) (by simp <;> omega) (by simp <;> omega) hB6.size ?_
        intro ys A7 c7 w7 hys hy1 hy2 hrow7 hg7 hA7
        have hB7 := hB6.grown hg7 hB6.size (fun g hg => (HO6.out.row.blk_lt g hg).1)
        have hR7 := hR6.grown_row hg7 (fun g hg e => by have := HALT.out g hg; have := (hR6.blk_lt g e).1; omega)
        have hx7 := hx6.grown hg7 (HO6.out.row.ne_var hx6 (by decide))
        have HD7 : Hid (∀ p ∈ (L2 : List FRow), OB w7 w.heap.size p.A p.c p.data) := Lib.hid fun p hp => (HO6.out.dat p hp).grown_row hg7 ((HO6.out.dat p hp).ne_row HO6.out.row (by decide))
        have HAP := Lib.hid HO6.out.apart
        have HY := Lib.hid hys.out
        have hyl : ys.length ≤ 1900001 := by simp at hy1 <;> omega
        clear y1 HO6 hg7 hA7 hL6 hB6 hR6 hx6 hys hy1 hy2
        have y1 := hx7.cell 1 rfl
        refine hK _ _ (by simp [owed, left] <;> (and_intros <;> first | trivial | assumption)) ?_
        clear hK K
        try simp only [List.getElem_toArray, List.getElem_cons_succ, List.getElem_cons_zero, Act.put, List.setIfInBounds_toArray, List.set_cons_zero, List.set_cons_succ]
        refine planE_eff rfl (by rfl) (fun K hK => ?_)
        refine op_appendS w7 (.tmp 47) (.tmp 48) 34 46 (by rfl) Tryd.underlying34 hi0 hz0 hz1 hz2 rfl (by decide) w.heap.size A7 Ar c7 cr ys rs (by rfl) (by rfl) hrow7 hR7.rs hR7.2 (by rw [HRS.out]; exact (by intro r hr v hv; obtain ⟨p, _, rfl⟩ := List.mem_map.1 hr; simp [FRow.cells] at hv; rcases hv with rfl | rfl <;> rfl)) (by omega) (by omega) hB7.size ?_
        intro zs A8 c8 w8 hzs hz1' hz2' hrow8 hg8 hA8
        have hB8 := hB7.grown hg8 hB7.size (fun g hg => (hrow7.blk_lt g hg).1)
        have hx8 := hx7.grown hg8 (hrow7.ne_var hx7 (by decide))
        have hmem : ∀ p ∈ (L2.take i ++ ⟨name, none, 0, []⟩ :: L2.drop i : List FRow), p = ⟨name, none, 0, []⟩ ∨ p ∈ (L2 : List FRow) := fun p hp => by
          rcases List.mem_append.1 hp with hp | hp
          · exact .inr (List.mem_of_mem_take hp)
          · rcases List.mem_cons.1 hp with hp | hp
            · exact .inl hp
            · exact .inr (List.mem_of_mem_drop hp)
        have HZ : Hid (zs = (L2.take i ++ ⟨name, none, 0, []⟩ :: L2.drop i : List FRow).map FRow.cells) := Lib.hid (by
          rw [hzs.out, HY.out, HRS.out]
          simp [FRow.cells])
        have HO8 : Hid (FO w.heap.size w8 A8 c8 (L2.take i ++ ⟨name, none, 0, []⟩ :: L2.drop i : List FRow)) := Lib.hid ⟨by rw [← HZ.out]; exact hrow8, fun p hp => by
          rcases hmem p hp with rfl | hp
          · exact OB.nil _ _
          · exact (HD7.out p hp).grown_row hg8 ((HD7.out p hp).ne_row hrow7 (by decide)), by
          exact apart_ins HAP.out i⟩
        have HZL : Hid (zs.length = (L2.take i ++ ⟨name, none, 0, []⟩ :: L2.drop i : List FRow).length) := Lib.hid (by rw [HZ.out, List.length_map])
        clear y1 hzs hz1' hz2' hrow8 hg8 hA8 HY HZ hmem HD7 HAP hrow7 hR7 hx7 hB7
        have y1 := hx8.cell 1 rfl
        rw [HZL.out]
        generalize hL5 : (L2.take i ++ ⟨name, none, 0, []⟩ :: L2.drop i : List FRow) = L5 at *
        refine hK _ _ (by simp [owed, left] <;> (and_intros <;> first | trivial | assumption)) ?_
        clear hK K
        try simp only [List.getElem_toArray, List.getElem_cons_succ, List.getElem_cons_zero, Act.put, List.setIfInBounds_toArray, List.set_cons_zero, List.set_cons_succ]
        iterate 1 (refine planE_pure (v := ?_) rfl (by rfl) (fun w' => ?_) ?_; rotate_left; (focus (simp only [List.getElem_toArray, List.getElem_cons_succ, List.getElem_cons_zero]; go_simp; first | with_reducible rfl | (simp (disch := omega) only [if_pos, if_neg, dif_pos, Result.andThen_ok]; try with_reducible rfl) | skip)); try simp only [List.getElem_toArray, List.getElem_cons_succ, List.getElem_cons_zero, Act.put, List.setIfInBounds_toArray, List.set_cons_zero, List.set_cons_succ])
        refine planE_end ?_
        obtain ⟨b5, rfl, _, _⟩ := HO8.out.row.head' (by rw [List.length_map, ← hL5]; simp <;> omega)
        have HO5 := HO8
        have hB5 := hB8
        have hx5 := hx8
        obtain ⟨c5, hc5⟩ : ∃ c5, c5 = c8 := ⟨_, rfl⟩
        subst hc5
        clear HO8 hB8 hx8 HZL hL5 HRS y1 hyl HALT HDLT HXLT HSE hz0 hz1 hz2
        have y0 := hx5.cell 0 rfl
        obtain ⟨hi5, hod, hset⟩ := HF5.out
        have HSET := Lib.hid hset
        have HI := Lib.hid (DoI.start HO5.out hB5 hB5.size hx5 hi5)
        obtain ⟨bb, bo, ebb, _, _, c1⟩ := HO5.out.rd.row hi5
        injection ebb with ebb
        injection ebb with eb1 eb2 _
        subst eb1 eb2
        rw [hod] at HI c1
        rw [Nat.zero_add] at c1
        have HNM : Hid (∀ lb B cb w', FO w.heap.size w' (some ⟨b5, 0, none⟩) c5 (L5.set i ⟨L5[i].name, B, cb, lb⟩) → Below w.heap.size w w' → lb = resizeD old off → NewF w (doF (L.map FRow.val) ⟨2, name, off, data⟩) (.returned (.slice (some ⟨b5, 0, none⟩) L5.length c5)) w') := Lib.hid fun lb B cb w' ho hb he => by
          subst he
          exact ⟨_, c5, _, by rw [List.length_set], Lib.hid (by rw [HDO.out]; exact HSET.out B cb _), ho, hb⟩
        generalize L5[i].A = B0 at *
        generalize L5[i].c = cb0 at *
        clear HO5 hB5 hx5 HF5 hod hset HDO HSET
        go_wp2_with fail
        go_loopw [9] (fun s9 wr => ∃ (B : Option Addr) (cb : Nat) (lb : List UInt8), s9 = .slice B lb.length cb ∧ Hid (lb = resizeD old lb.length) ∧ old.length ≤ lb.length ∧ (lb.length ≤ old.length ∨ lb.length ≤ off) ∧ Hid (DoI w.heap.size w wr xb #[.int .i64 2, .string ⟨name.toArray⟩, .int .i64 (off : Int), .slice Y data.length cy] i L5 (some ⟨b5, 0, none⟩) c5 B cb lb)) (fun s9 _ => off - slen s9)
        case atStart => exact ⟨B0, cb0, old, rfl, Lib.hid (resize_self old).symm, Nat.le_refl _, .inl (Nat.le_refl _), HI⟩
        case round =>
          obtain ⟨B, cb, lb, rfl, hlb, hge, hle, HR⟩ := hrel
          clear HI c1
          have y2 := HR.out.blk.cell 2 rfl
          have y3 := HR.out.blk.cell 3 rfl
          by_cases hlt : lb.length < off
          · have hba : Below wr.heap.size wr (wr.alloc (.cells #[.int .u8 0] 5)) := (Below.refl _ _).alloc (Nat.le_refl _) _
            have HR2 := Lib.hid (HR.out.below' hba)
            have HRE : Hid (resizeD old lb.length ++ [0] = resizeD old (lb.length + 1)) := Lib.hid (resize_grow old lb.length hge)
            have hcell : (wr.alloc (.cells #[.int .u8 0] 5)).cell? ⟨wr.heap.size, 0, none⟩ = some (.int .u8 (((0 : UInt8)).toNat : Int)) := by
              exact (Blk.new wr #[.int .u8 0] 5).cell 0 rfl
            have HC := Lib.hid hcell
            clear hba HR hcell
            go_wp2_with (at_builtin; refine wp_append1W _ rfl (.tmp 63) (.tmp 64) rfl w.heap.size B cb wr.heap.size lb 0 rfl rfl HR2.out.own HC.out (by omega) HR2.out.size ?_; intro lb2 B2 cb2 w4 hk hk1 hk2 hob hg hat)
            have HR3 := Lib.hid (HR2.out.grow hob hg hat)
            have HK : Hid (lb2 = resizeD old lb2.length) := Lib.hid (by
              have e1 := hk.out
              have e2 : lb2.length = lb.length + 1 := by omega
              rw [e2, e1]
              have := HRE.out
              rw [← hlb.out] at this
              exact this)
            clear hk hob hg hat HR2 HC HRE hlb
            go_roundw
            case rel => exact ⟨B2, cb2, lb2, rfl, HK, by omega, .inr (by omega), HR3⟩
            case measure => simp [slen]; omega
          · have hge2 : off ≤ lb.length := by omega
            obtain ⟨hcap, hcap2⟩ := HR.out.own.cap
            have hoc : off ≤ cb := by omega
            obtain ⟨b0, b1, eb0, _, _, d1⟩ : ∃ b0 b1, (some (⟨b5, 0, none⟩ : Addr)) = some ⟨b0, b1, none⟩ ∧ True ∧ True ∧ wr.cell? ⟨b5, i * 2 + 1, none⟩ ≠ none := ⟨b5, 0, rfl, trivial, trivial, HR.out.cell_some hi5⟩
            have fr : wr.frozen? ⟨b5, i * 2 + 1, none⟩ = false := HR.out.row.free rfl _
            obtain ⟨v1, hv1⟩ := Option.ne_none_iff_exists'.1 d1
            clear d1 eb0
            have HST := Lib.hid (HR.out.store hi5 (HR.out.own.take off))
            have HTL : Hid ((lb.take off).length = off ∧ lb.take off = resizeD old off) := Lib.hid ⟨by rw [List.length_take]; omega, by rw [hlb.out]; exact resize_take old _ _ hge2⟩
            have HFIN : Hid (NewF w (doF (L.map FRow.val) ⟨2, name, off, data⟩) (.returned (.slice (some ⟨b5, 0, none⟩) L5.length c5)) (wr.setCell ⟨b5, i * 2 + 1, none⟩ (.slice B off cb))) := Lib.hid (by
              have := HNM.out _ B cb _ HST.out.1 HST.out.2 HTL.out.2
              rw [HTL.out.1] at this
              exact this)
            have hform := HR.out.own.form
            clear HR hlb HST HTL HNM
            rcases hform with ⟨rfl, rfl, rfl⟩ | ⟨gB, rfl, _, _, _, _⟩
            · obtain rfl : off = 0 := by simpa using hge2
              go_wp2_with fail
              go_ret
              exact HFIN.out
            · go_wp2_with fail
              go_ret
              exact HFIN.out
      · have hcc2 : ca = L2.length ∧ i = L2.length := by have h0 := HO3.out.row.cap; rw [List.length_map] at h0; omega
        obtain ⟨hc1, hc2⟩ := hcc2
        subst hc1 hc2
        clear hcc
        have hcap := HO3.out.row.cap
        rw [List.length_map] at hcap
        obtain ⟨hcap, hcap2⟩ := hcap
        have htl : ((L2.take L2.length).map FRow.cells).length = L2.length := by simp
        have hba : Below w3.heap.size w3 (w3.alloc (.cells #[] 46)) := (Below.refl _ _).alloc (Nat.le_refl _) _
        have hOE := OR.made0 w3 46 2 (Nat.le_refl w3.heap.size)
        have HO3' := Lib.hid (HO3.out.below hba)
        have HX3' := Lib.hid (hx3.kept hba)
        have hB3' := hB3.trans (hba.mono hB3.size)
        have HXLT : Hid (xb < w3.heap.size) := Lib.hid hx3.lt
        have HALT : Hid (∀ g, ((some ⟨b, 0, none⟩) : Option Addr).map (·.block) = some g → g < w3.heap.size) := Lib.hid fun g hg => (HO3.out.row.blk_lt g hg).2
        have HDLT : Hid (∀ p ∈ (L2 : List FRow), ∀ g, p.A.map (·.block) = some g → g < w3.heap.size) := Lib.hid fun p hp g hg => ((HO3.out.dat p hp).blk_lt g hg).2
        have HF5 := Lib.hid (HN2.out hat)
        have HSE := Lib.hid hB3.size
        have hebl : w3.heap.size ≤ (w3.alloc (.cells #[] 46)).heap.size := by simp
        clear hat HLT HT2 HN2 HL2 hval hB3 hx3 hba HO3
        obtain ⟨i0, hi0, hz0, hz1, hz2⟩ := info_parts file_info
        go_wp2_with (at_builtin; refine wp_appendS _ rfl (.tmp 35) (.tmp 38) 34 46 rfl Tryd.underlying34 hi0 hz0 hz1 hz2 rfl (by decide) w3.heap.size (some ⟨w3.heap.size, 0, none⟩) (some ⟨b, 0, none⟩) 0 0 [] [] rfl rfl hOE RS.nil (by simp) (by simp) (by simp <;> omega) (by simp <;> omega) hebl ?_; intro rs Ar cr w4 hrs hr1 hr2 hrest hg4 hA4)
        have HRS : Hid (rs = []) := Lib.hid (by simpa using hrs.out)
        have HO4 : Hid (FO w.heap.size w4 (some ⟨b, 0, none⟩) L2.length L2) := Lib.hid (HO3'.out.grown_row hg4 (fun g hg e => by injection hg with hg; have := HALT.out g e; simp at hg; omega) (fun p hp g hg e => by injection hg with hg; have := HDLT.out p hp g e; simp at hg; omega))
        have hx4 := HX3'.out.grown hg4 (fun e => by injection e with e; have := HXLT.out; simp at e; omega)
        have hB4 := hB3'.grown hg4 hB3'.size (fun g hg => by injection hg with hg; have := HSE.out; simp at hg; omega)
        have hrl : rs.length ≤ 1900000 := by simp at hr1 <;> first | omega | (rw [hr1]; simp)
        clear hrs hg4 hA4 HO3' HX3' hB3' hOE hebl y0 hr1 hr2
        generalize w3.heap.size = eb at *
        refine wp_region_planE_gen (by kernel_rfl) [(0, none), (1, none), (2, none), (3, none), (4, none), (5, none), (8, none), (6, some [5]), (7, some [2]), (9, some [8]), (10, none)] (by kernel_rfl) (by kernel_rfl) (by decide) ?_
        intro wq hwq
        have hbq : Below w4.heap.size w4 wq := by rw [hwq]; exact (Below.refl _ _).drew
        have hBq := hB4.trans (hbq.mono hB4.size)
        have HOq := Lib.hid (HO4.out.below hbq)
        have hRq := hrest.below hbq
        have hxq := hx4.kept hbq
        have y1 := hxq.cell 1 rfl
        clear hwq hbq HO4 hB4 hx4 hrest
        iterate 4 (refine planE_pure (v := ?_) rfl (by rfl) (fun w' => ?_) ?_; rotate_left; (focus (simp only [List.getElem_toArray, List.getElem_cons_succ, List.getElem_cons_zero]; go_simp; first | with_reducible rfl | (simp (disch := omega) only [if_pos, if_neg, dif_pos, Result.andThen_ok]; try with_reducible rfl) | skip)); try simp only [List.getElem_toArray, List.getElem_cons_succ, List.getElem_cons_zero, Act.put, List.setIfInBounds_toArray, List.set_cons_zero, List.set_cons_succ])
        refine planE_cells (v := ?_) [(⟨xb, 1, none⟩, .string ⟨name.toArray⟩)] (by simp; and_intros <;> assumption) rfl (by rfl) (fun w' hw' => ?_) ?_; rotate_left; (focus (simp only [List.forall_mem_cons, List.not_mem_nil, false_imp_iff, implies_true, and_true] at hw'; simp only [List.getElem_toArray, List.getElem_cons_succ, List.getElem_cons_zero]; go_simp; first | with_reducible rfl | (simp (disch := omega) only [if_pos, if_neg, dif_pos, Result.andThen_ok]; try with_reducible rfl) | skip)); try simp only [List.getElem_toArray, List.getElem_cons_succ, List.getElem_cons_zero, Act.put, List.setIfInBounds_toArray, List.set_cons_zero, List.set_cons_succ]
        iterate 2 (refine planE_pure (v := ?_) rfl (by rfl) (fun w' => ?_) ?_; rotate_left; (focus (simp only [List.getElem_toArray, List.getElem_cons_succ, List.getElem_cons_zero]; go_simp; first | with_reducible rfl | (simp (disch := omega) only [if_pos, if_neg, dif_pos, Result.andThen_ok]; try with_reducible rfl) | skip)); try simp only [List.getElem_toArray, List.getElem_cons_succ, List.getElem_cons_zero, Act.put, List.setIfInBounds_toArray, List.set_cons_zero, List.set_cons_succ])
        refine planE_eff rfl (by rfl) (fun K hK => ?_)
        go_simp
        have hb2 : Below wq.heap.size wq (wq.alloc (.cells #[.string ⟨name.toArray⟩, .slice none 0 0] 46)) := (Below.refl _ _).alloc (Nat.le_refl _) _
        have hL6 := Blk.new wq #[.string ⟨name.toArray⟩, .slice none 0 0] 46
        have hB6 := hBq.trans (hb2.mono hBq.size)
        have HO6 := Lib.hid (HOq.out.below hb2)
        have hR6 := hRq.below hb2
        have hx6 := hxq.kept hb2
        obtain ⟨lb, hlb⟩ : ∃ lb, lb = wq.heap.size := ⟨_, rfl⟩
        rw [← hlb] at hL6 ⊢
        generalize wq.alloc (.cells #[.string ⟨name.toArray⟩, .slice none 0 0] 46) = w6 at *
        clear y1 hb2 hBq hlb HOq hRq hxq
        have y1 := hx6.cell 1 rfl
        refine hK _ _ (by simp [owed, left] <;> (and_intros <;> first | trivial | assumption)) ?_
        clear hK K
        try simp only [List.getElem_toArray, List.getElem_cons_succ, List.getElem_cons_zero, Act.put, List.setIfInBounds_toArray, List.set_cons_zero, List.set_cons_succ]
        refine planE_eff rfl (by rfl) (fun K hK => ?_)
        refine op_appendS w6 (.tmp 42) (.tmp 46) 34 46 (by rfl) Tryd.underlying34 hi0 hz0 hz1 hz2 rfl (by decide) w.heap.size (some ⟨b, 0, none⟩) (some ⟨lb, 0, none⟩) L2.length 1 ((L2.take L2.length).map FRow.cells) [[.string ⟨name.toArray⟩, .slice none 0 0]] (by rw [htl]; rfl) (by rfl) (by rw [List.map_take]; exact HO6.out.row.take L2.length) (RS.lit hL6) (by simp) (by simp [Value.oneCell']) (by simp <;> omega) (by simp <;> omega) hB6.size ?_
        intro ys A7 c7 w7 hys hy1 hy2 hrow7 hg7 hA7
        have hB7 := hB6.grown hg7 hB6.size (fun g hg => (HO6.out.row.blk_lt g hg).1)
        have hR7 := hR6.grown_row hg7 (fun g hg e => by have := HALT.out g hg; have := (hR6.blk_lt g e).1; omega)
        have hx7 := hx6.grown hg7 (HO6.out.row.ne_var hx6 (by decide))
        have HD7 : Hid (∀ p ∈ (L2 : List FRow), OB w7 w.heap.size p.A p.c p.data) := Lib.hid fun p hp => (HO6.out.dat p hp).grown_row hg7 ((HO6.out.dat p hp).ne_row HO6.out.row (by decide))
        have HAP := Lib.hid HO6.out.apart
        have HY := Lib.hid hys.out
        have hyl : ys.length ≤ 1900001 := by simp at hy1 <;> omega
        clear y1 HO6 hg7 hA7 hL6 hB6 hR6 hx6 hys hy1 hy2
        have y1 := hx7.cell 1 rfl
        refine hK _ _ (by simp [owed, left] <;> (and_intros <;> first | trivial | assumption)) ?_
        clear hK K
        try simp only [List.getElem_toArray, List.getElem_cons_succ, List.getElem_cons_zero, Act.put, List.setIfInBounds_toArray, List.set_cons_zero, List.set_cons_succ]
        refine planE_eff rfl (by rfl) (fun K hK => ?_)
        refine op_appendS w7 (.tmp 47) (.tmp 48) 34 46 (by rfl) Tryd.underlying34 hi0 hz0 hz1 hz2 rfl (by decide) w.heap.size A7 Ar c7 cr ys rs (by rfl) (by rfl) hrow7 hR7.rs hR7.2 (by rw [HRS.out]; exact (by simp)) (by omega) (by omega) hB7.size ?_
        intro zs A8 c8 w8 hzs hz1' hz2' hrow8 hg8 hA8
        have hB8 := hB7.grown hg8 hB7.size (fun g hg => (hrow7.blk_lt g hg).1)
        have hx8 := hx7.grown hg8 (hrow7.ne_var hx7 (by decide))
        have hmem : ∀ p ∈ (L2.take L2.length ++ ⟨name, none, 0, []⟩ :: L2.drop L2.length : List FRow), p = ⟨name, none, 0, []⟩ ∨ p ∈ (L2 : List FRow) := fun p hp => by
          rcases List.mem_append.1 hp with hp | hp
          · exact .inr (List.mem_of_mem_take hp)
          · rcases List.mem_cons.1 hp with hp | hp
            · exact .inl hp
            · exact .inr (List.mem_of_mem_drop hp)
        have HZ : Hid (zs = (L2.take L2.length ++ ⟨name, none, 0, []⟩ :: L2.drop L2.length : List FRow).map FRow.cells) := Lib.hid (by
          rw [hzs.out, HY.out, HRS.out]
          simp [FRow.cells])
        have HO8 : Hid (FO w.heap.size w8 A8 c8 (L2.take L2.length ++ ⟨name, none, 0, []⟩ :: L2.drop L2.length : List FRow)) := Lib.hid ⟨by rw [← HZ.out]; exact hrow8, fun p hp => by
          rcases hmem p hp with rfl | hp
          · exact OB.nil _ _
          · exact (HD7.out p hp).grown_row hg8 ((HD7.out p hp).ne_row hrow7 (by decide)), by
          exact apart_ins HAP.out L2.length⟩
        have HZL : Hid (zs.length = (L2.take L2.length ++ ⟨name, none, 0, []⟩ :: L2.drop L2.length : List FRow).length) := Lib.hid (by rw [HZ.out, List.length_map])
        clear y1 hzs hz1' hz2' hrow8 hg8 hA8 HY HZ hmem HD7 HAP hrow7 hR7 hx7 hB7
        have y1 := hx8.cell 1 rfl
        rw [HZL.out]
        generalize hL5 : (L2.take L2.length ++ ⟨name, none, 0, []⟩ :: L2.drop L2.length : List FRow) = L5 at *
        refine hK _ _ (by simp [owed, left] <;> (and_intros <;> first | trivial | assumption)) ?_
        clear hK K
        try simp only [List.getElem_toArray, List.getElem_cons_succ, List.getElem_cons_zero, Act.put, List.setIfInBounds_toArray, List.set_cons_zero, List.set_cons_succ]
        iterate 1 (refine planE_pure (v := ?_) rfl (by rfl) (fun w' => ?_) ?_; rotate_left; (focus (simp only [List.getElem_toArray, List.getElem_cons_succ, List.getElem_cons_zero]; go_simp; first | with_reducible rfl | (simp (disch := omega) only [if_pos, if_neg, dif_pos, Result.andThen_ok]; try with_reducible rfl) | skip)); try simp only [List.getElem_toArray, List.getElem_cons_succ, List.getElem_cons_zero, Act.put, List.setIfInBounds_toArray, List.set_cons_zero, List.set_cons_succ])
        refine planE_end ?_
        obtain ⟨b5, rfl, _, _⟩ := HO8.out.row.head' (by rw [List.length_map, ← hL5]; simp <;> omega)
        have HO5 := HO8
        have hB5 := hB8
        have hx5 := hx8
        obtain ⟨c5, hc5⟩ : ∃ c5, c5 = c8 := ⟨_, rfl⟩
        subst hc5
        clear HO8 hB8 hx8 HZL hL5 HRS y1 hyl HALT HDLT HXLT HSE hz0 hz1 hz2
        have y0 := hx5.cell 0 rfl
        obtain ⟨hi5, hod, hset⟩ := HF5.out
        have HSET := Lib.hid hset
        have HI := Lib.hid (DoI.start HO5.out hB5 hB5.size hx5 hi5)
        obtain ⟨bb, bo, ebb, _, _, c1⟩ := HO5.out.rd.row hi5
        injection ebb with ebb
        injection ebb with eb1 eb2 _
        subst eb1 eb2
        rw [hod] at HI c1
        rw [Nat.zero_add] at c1
        have HNM : Hid (∀ lb B cb w', FO w.heap.size w' (some ⟨b5, 0, none⟩) c5 (L5.set L2.length ⟨L5[L2.length].name, B, cb, lb⟩) → Below w.heap.size w w' → lb = resizeD old off → NewF w (doF (L.map FRow.val) ⟨2, name, off, data⟩) (.returned (.slice (some ⟨b5, 0, none⟩) L5.length c5)) w') := Lib.hid fun lb B cb w' ho hb he => by
          subst he
          exact ⟨_, c5, _, by rw [List.length_set], Lib.hid (by rw [HDO.out]; exact HSET.out B cb _), ho, hb⟩
        generalize L5[L2.length].A = B0 at *
        generalize L5[L2.length].c = cb0 at *
        clear HO5 hB5 hx5 HF5 hod hset HDO HSET
        go_wp2_with fail
        go_loopw [9] (fun s9 wr => ∃ (B : Option Addr) (cb : Nat) (lb : List UInt8), s9 = .slice B lb.length cb ∧ Hid (lb = resizeD old lb.length) ∧ old.length ≤ lb.length ∧ (lb.length ≤ old.length ∨ lb.length ≤ off) ∧ Hid (DoI w.heap.size w wr xb #[.int .i64 2, .string ⟨name.toArray⟩, .int .i64 (off : Int), .slice Y data.length cy] L2.length L5 (some ⟨b5, 0, none⟩) c5 B cb lb)) (fun s9 _ => off - slen s9)
        case atStart => exact ⟨B0, cb0, old, rfl, Lib.hid (resize_self old).symm, Nat.le_refl _, .inl (Nat.le_refl _), HI⟩
        case round =>
          obtain ⟨B, cb, lb, rfl, hlb, hge, hle, HR⟩ := hrel
          clear HI c1
          have y2 := HR.out.blk.cell 2 rfl
          have y3 := HR.out.blk.cell 3 rfl
          by_cases hlt : lb.length < off
          · have hba : Below wr.heap.size wr (wr.alloc (.cells #[.int .u8 0] 5)) := (Below.refl _ _).alloc (Nat.le_refl _) _
            have HR2 := Lib.hid (HR.out.below' hba)
            have HRE : Hid (resizeD old lb.length ++ [0] = resizeD old (lb.length + 1)) := Lib.hid (resize_grow old lb.length hge)
            have hcell : (wr.alloc (.cells #[.int .u8 0] 5)).cell? ⟨wr.heap.size, 0, none⟩ = some (.int .u8 (((0 : UInt8)).toNat : Int)) := by
              exact (Blk.new wr #[.int .u8 0] 5).cell 0 rfl
            have HC := Lib.hid hcell
            clear hba HR hcell
            go_wp2_with (at_builtin; refine wp_append1W _ rfl (.tmp 63) (.tmp 64) rfl w.heap.size B cb wr.heap.size lb 0 rfl rfl HR2.out.own HC.out (by omega) HR2.out.size ?_; intro lb2 B2 cb2 w4 hk hk1 hk2 hob hg hat)
            have HR3 := Lib.hid (HR2.out.grow hob hg hat)
            have HK : Hid (lb2 = resizeD old lb2.length) := Lib.hid (by
              have e1 := hk.out
              have e2 : lb2.length = lb.length + 1 := by omega
              rw [e2, e1]
              have := HRE.out
              rw [← hlb.out] at this
              exact this)
            clear hk hob hg hat HR2 HC HRE hlb
            go_roundw
            case rel => exact ⟨B2, cb2, lb2, rfl, HK, by omega, .inr (by omega), HR3⟩
            case measure => simp [slen]; omega
          · have hge2 : off ≤ lb.length := by omega
            obtain ⟨hcap, hcap2⟩ := HR.out.own.cap
            have hoc : off ≤ cb := by omega
            obtain ⟨b0, b1, eb0, _, _, d1⟩ : ∃ b0 b1, (some (⟨b5, 0, none⟩ : Addr)) = some ⟨b0, b1, none⟩ ∧ True ∧ True ∧ wr.cell? ⟨b5, L2.length * 2 + 1, none⟩ ≠ none := ⟨b5, 0, rfl, trivial, trivial, HR.out.cell_some hi5⟩
            have fr : wr.frozen? ⟨b5, L2.length * 2 + 1, none⟩ = false := HR.out.row.free rfl _
            obtain ⟨v1, hv1⟩ := Option.ne_none_iff_exists'.1 d1
            clear d1 eb0
            have HST := Lib.hid (HR.out.store hi5 (HR.out.own.take off))
            have HTL : Hid ((lb.take off).length = off ∧ lb.take off = resizeD old off) := Lib.hid ⟨by rw [List.length_take]; omega, by rw [hlb.out]; exact resize_take old _ _ hge2⟩
            have HFIN : Hid (NewF w (doF (L.map FRow.val) ⟨2, name, off, data⟩) (.returned (.slice (some ⟨b5, 0, none⟩) L5.length c5)) (wr.setCell ⟨b5, L2.length * 2 + 1, none⟩ (.slice B off cb))) := Lib.hid (by
              have := HNM.out _ B cb _ HST.out.1 HST.out.2 HTL.out.2
              rw [HTL.out.1] at this
              exact this)
            have hform := HR.out.own.form
            clear HR hlb HST HTL HNM
            rcases hform with ⟨rfl, rfl, rfl⟩ | ⟨gB, rfl, _, _, _, _⟩
            · obtain rfl : off = 0 := by simpa using hge2
              go_wp2_with fail
              go_ret
              exact HFIN.out
            · go_wp2_with fail
              go_ret
              exact HFIN.out
end Go.Proofs.YthdmnajcphaekaaDoor
