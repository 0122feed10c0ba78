/- The walk of DiskApart (printed by gen_wdiske.py). -/
import Derived.Test.YthdmnajcphaekaaDoorGrown
import Derived.Test.YthdmnajcphaekaaDoorWDiskC
import Derived.Test.YthdmnajcphaekaaDoorPlanT
import Derived.Deep.CutBlock
import Derived.Deep.DeepCutAuto
namespace Go.Proofs.YthdmnajcphaekaaDoor
open Go.RowKit

theorem put_free {D : DSt} {n : Nm} {data : List UInt8} (hd : D.down = false) (hf : ¬ 0 < D.fuse) (hn : nameOk n = true) (hc : D.files.length ≤ 4000) (hr : Rising D.files) (hroom : (fsize D.files : Int) + data.length ≤ D.room) :
    changeD D ⟨1, n, (0 : Int).toNat, data⟩ 0 = (0, { D with unsure := D.unsure ++ [⟨1, n, 0, data⟩] }) := by
  have hb : burnD D = D := by unfold burnD; rw [if_neg hf]
  have hge := fsize_ge D.files n
  have h : refuseD D ⟨1, n, 0, data⟩ 0 = 0 := by
    rw [refuse_rest hd hn (by decide) (by decide) (by simp only; omega)]
    rw [if_neg]
    unfold afterN
    rw [if_pos rfl]
    simp only
    omega
  have := changeD_eq0 D ⟨1, n, 0, data⟩ 0 h (by rw [hb]; exact hd)
  rw [hb] at this
  exact this
theorem files_put (D : DSt) (n : Nm) (data : List UInt8) : fget ({ D with unsure := D.unsure ++ [⟨1, n, 0, data⟩] } : DSt).files n = some (putD ((fget D.files n).getD []) 0 data) := by
  unfold DSt.files
  rw [List.foldl_append, List.foldl_cons, List.foldl_nil]
  unfold doF
  rw [if_pos rfl, fget_fset, if_pos rfl]
theorem putD0_get (b data : List UInt8) (j : Nat) (h : j < data.length) : (putD b 0 data)[j]? = data[j]? := by
  unfold putD
  simp [List.getElem?_append, h]
theorem read_put {D : DSt} (n : Nm) (data : List UInt8) (hd : D.down = false) (hn : nameOk n = true) :
    readE ({ D with unsure := D.unsure ++ [⟨1, n, 0, data⟩] } : DSt) n = 0 ∧ readB ({ D with unsure := D.unsure ++ [⟨1, n, 0, data⟩] } : DSt) n = putD ((fget D.files n).getD []) 0 data := by
  have hg := files_put D n data
  have hre : readE ({ D with unsure := D.unsure ++ [⟨1, n, 0, data⟩] } : DSt) n = 0 := by
    unfold readE
    rw [if_neg (by show ¬ D.down = true; rw [hd]; simp), if_neg (by rw [hn]; simp), hg]
    rfl
  exact ⟨hre, by unfold readB; rw [hre, if_pos rfl, hg]; rfl⟩

set_option maxRecDepth 20000 in
set_option maxHeartbeats 16000000 in
theorem walkDiskApart (room : Int) (X : Option Addr) (c : Nat) (L0 : List (List Fv)) (Z : Option Addr) (cz : Nat) (N0 : List (List Fv)) (DA : Option Addr) (cd : Nat) (dat : List UInt8) (w : World) (hroom : I64 room) (hX : RS w X 5 (L0.map (·.map Fv.val))) (hL : L0.length ≤ 9223372036854775807) (hR : ∀ r ∈ L0, rowOk w actK r) (hZ : RS w Z 5 (N0.map (·.map Fv.val))) (hN : N0.length ≤ 9223372036854775807) (hQ : ∀ r ∈ N0, rowOk w actK r) (hdat : RB w DA dat) (hdl : dat.length ≤ 140737488351232) :
    Calls Tryd.prog 7 #[.int .i64 room, .slice X L0.length c, .slice Z N0.length cz, .slice DA dat.length cd] w fun e w' => e = .returned (.bool true) ∧ Below w.heap.size w w' := by
  obtain ⟨L, hL', hacts⟩ := acts_of hX hR
  rw [← hL'] at hL ⊢
  have GR := Lib.hid (lawGrown room X c L w hacts hL)
  obtain ⟨N, hN', hmore⟩ := acts_of hZ hQ
  rw [← hN'] at hN ⊢
  have HA := Lib.hid hmore
  have HDA := Lib.hid hdat
  clear hX hR hL' hacts hZ hQ hN' hmore hdat
  go_enter Tryd.func7, Tryd.ntmps7
  go_wp2_with fail
  refine GR.out.mono ?_
  rintro e w1 ⟨d, g, T, M, S, D, rfl, hp, hn, hgd, hb1⟩
  have HP := Lib.hid hp
  have HN := Lib.hid hn
  have HG := Lib.hid hgd
  clear GR hp hn hgd
  go_wp2_with fail
  refine (lawAnswers _).mono ?_
  rintro e w2 ⟨rfl, hb2⟩
  have hb := hb1.trans (hb2.mono hb1.size)
  have HP := Lib.hid (HP.out.below hb2)
  have HN : Hid (∀ b, T b ∨ M b ∨ S b → News w w2 b) := Lib.hid fun b hb => ⟨(HN.out b hb).1, Nat.lt_of_lt_of_le (HN.out b hb).2 hb2.size⟩
  obtain ⟨A, cc, Lr, B, cu, U, hr⟩ := HP.out.ri
  have g2 := hr.blk.cell 2 rfl
  have HBK := Lib.hid hr.blk
  have hcnt : D.cnt ≤ 1000000 := Nat.le_trans HG.out.1 (by omega)
  have HOK := Lib.hid hr.ok
  have HRR := Lib.hid hr
  have hsw := hb.size
  clear hb1 hb2 hr
  have hRM0 : 0 ≤ D.room := HOK.out.1.1
  have hRM1 : D.room ≤ 4194304 := HOK.out.1.2
  have HG2 := Lib.hid g2
  have CP := Lib.hid (fun w' (hb : Below w2.heap.size w2 w') => diskCopyC (HP.out.di.below hb) hcnt)
  have HX0 := Lib.hid (fun (w' : World) => ref0 w' D.room hRM0 hRM1)
  obtain ⟨rm, hrm⟩ : ∃ rm, rm = D.room := ⟨_, rfl⟩
  rw [← hrm] at g2 HG2 HX0 hRM0 hRM1
  have HRM := Lib.hid hrm
  clear hrm
  go_upto_region 4 with fail
  go_cut [11, 12] (fun s11 s12 wx => ∃ (c2 xn : Nat) (T4 M4 S4 : Nat → Prop), s11 = .pointer (some ⟨c2, 0, none⟩) ∧ s12 = .pointer (some ⟨xn, 0, none⟩) ∧ Hid (Pair T4 M4 S4 wx c2 D xn (dsk0 rm)) ∧ Hid (∀ b, T4 b ∨ M4 b ∨ S4 b → News w2 wx b) ∧ Below w2.heap.size w2 wx)
  case first =>
    refine wp_region_planT_gen (by kernel_rfl) [0, 2, 3, 4, 5, 6] (1, [0], [(8, none), (7, some [6]), (9, none)]) (7, [6], [(1, some [0]), (8, none), (9, none)]) (by kernel_rfl) (by kernel_rfl) (by decide) (by decide) ?_
    intro wq hwq
    have hbq : Below w2.heap.size w2 wq := by rw [hwq]; exact (Below.refl _ _).drew
    have e2 := (HBK.out.kept hbq).cell 2 rfl
    rw [← HRM.out] at e2
    clear hwq g2
    iterate 4 (refine planF_pure (v := ?_) rfl (by rfl) (fun w' => ?_) ?_; rotate_left; (focus (simp only [List.getElem_toArray, List.getElem_cons_succ, List.getElem_cons_zero]; go_simp; first | with_reducible rfl | (simp (disch := omega) only [if_pos, if_neg, dif_pos, Result.andThen_ok]; try with_reducible rfl) | skip)); try simp only [List.getElem_toArray, List.getElem_cons_succ, List.getElem_cons_zero, Act.put, List.setIfInBounds_toArray, List.set_cons_zero, List.set_cons_succ])
    refine planF_cells (v := ?_) [(⟨g, 2, none⟩, .int .i64 rm)] (by simp; and_intros <;> assumption) rfl (by rfl) (fun w' hw' => ?_) ?_; rotate_left; (focus (simp only [List.forall_mem_cons, List.not_mem_nil, false_imp_iff, implies_true, and_true] at hw'; simp only [List.getElem_toArray, List.getElem_cons_succ, List.getElem_cons_zero]; go_simp; first | with_reducible rfl | (simp (disch := omega) only [if_pos, if_neg, dif_pos, Result.andThen_ok]; try with_reducible rfl) | skip)); try simp only [List.getElem_toArray, List.getElem_cons_succ, List.getElem_cons_zero, Act.put, List.setIfInBounds_toArray, List.set_cons_zero, List.set_cons_succ]
    iterate 1 (refine planF_pure (v := ?_) rfl (by rfl) (fun w' => ?_) ?_; rotate_left; (focus (simp only [List.getElem_toArray, List.getElem_cons_succ, List.getElem_cons_zero]; go_simp; first | with_reducible rfl | (simp (disch := omega) only [if_pos, if_neg, dif_pos, Result.andThen_ok]; try with_reducible rfl) | skip)); try simp only [List.getElem_toArray, List.getElem_cons_succ, List.getElem_cons_zero, Act.put, List.setIfInBounds_toArray, List.set_cons_zero, List.set_cons_succ])
    refine planF_end ⟨?_, ?_⟩
    focus
      refine planE_eff rfl (by rfl) (fun K hK => ?_)
      go_simp
      first
      | (guard_hyp hxn : xn = wq.heap.size
         refine (CP.out _ hbx).mono ?_
         rintro e w4 ⟨c2, rfl, hcd, hcb⟩
         have hb4 := hbx.trans (hcb.mono hbx.size)
         have hxx := (hx0.below hcb)
         have HPX : Hid (Pair (News wx w4) (fun b => b = xn) (fun _ => False) w4 c2 D xn (dsk0 rm)) := Lib.hid ⟨hcd, hxx, fun b hb => ⟨fun e => by have := hb.1; have := hxs; omega, fun e => e⟩⟩
         have HNX : Hid (∀ b, News wx w4 b ∨ b = xn ∨ False → News w2 w4 b) := Lib.hid fun b hb => by
           have h1 := hbq.size
           have h2 := hbx.size
           have h3 := hcb.size
           rcases hb with hb | hb | hb
           · exact ⟨by have := hb.1; omega, hb.2⟩
           · exact ⟨by omega, by omega⟩
           · exact hb.elim
         have HXN := Lib.hid hxn
         clear e2
         have e2 := (HBK.out.kept hb4).cell 2 rfl
         rw [← HRM.out] at e2
         clear hcd hcb hxx hx0 hxs hbx hxn)
      | (refine (CP.out _ hbq).mono ?_
         rintro e w3 ⟨c2, rfl, hcd, hcb⟩
         have hb3 := hbq.trans (hcb.mono hbq.size)
         clear e2
         have e2 := (HBK.out.kept hb3).cell 2 rfl
         rw [← HRM.out] at e2)
      refine hK _ _ (by simp [owed, left] <;> (and_intros <;> first | trivial | assumption)) ?_
      clear hK K
      try simp only [List.getElem_toArray, List.getElem_cons_succ, List.getElem_cons_zero, Act.put, List.setIfInBounds_toArray, List.set_cons_zero, List.set_cons_succ]
      iterate 1 (refine planE_pure (v := ?_) rfl (by rfl) (fun w' => ?_) ?_; rotate_left; (focus (simp only [List.getElem_toArray, List.getElem_cons_succ, List.getElem_cons_zero]; go_simp; first | with_reducible rfl | (simp (disch := omega) only [if_pos, if_neg, dif_pos, Result.andThen_ok]; try with_reducible rfl) | skip)); try simp only [List.getElem_toArray, List.getElem_cons_succ, List.getElem_cons_zero, Act.put, List.setIfInBounds_toArray, List.set_cons_zero, List.set_cons_succ])
      refine planE_eff rfl (by rfl) (fun K hK => ?_)
      first
      | (guard_hyp hb3 : Below w2.heap.size w2 w3
         go_simp
         obtain ⟨xn, hxn⟩ : ∃ xn, xn = w3.heap.size := ⟨_, rfl⟩
         have hal : Below w3.heap.size w3 (w3.alloc (.cells #[.slice none 0 0, .slice none 0 0, .int .i64 rm, .int .i64 0, .bool false] 42)) := (Below.refl _ _).alloc (Nat.le_refl _) _
         have hx0 := HX0.out w3
         have hszz : (w3.alloc (.cells #[.slice none 0 0, .slice none 0 0, .int .i64 rm, .int .i64 0, .bool false] 42)).heap.size = w3.heap.size + 1 := by simp
         rw [← hxn] at hx0 hszz ⊢
         generalize w3.alloc (.cells #[.slice none 0 0, .slice none 0 0, .int .i64 rm, .int .i64 0, .bool false] 42) = w4 at *
         have hb4 := hb3.trans (hal.mono hb3.size)
         have HPX : Hid (Pair (News wq w3) (fun b => b = xn) (fun _ => False) w4 c2 D xn (dsk0 rm)) := Lib.hid ⟨hcd.below hal, hx0, fun b hb => ⟨fun e => by have := hb.2; omega, fun e => e⟩⟩
         have HNX : Hid (∀ b, News wq w3 b ∨ b = xn ∨ False → News w2 w4 b) := Lib.hid fun b hb => by
           have h1 := hbq.size
           have h2 := hb3.size
           have h3 := hal.size
           rcases hb with hb | hb | hb
           · exact ⟨by have := hb.1; omega, by have := hb.2; omega⟩
           · exact ⟨by omega, by omega⟩
           · exact hb.elim
         have HXN := Lib.hid hxn
         clear e2
         have e2 := (HBK.out.kept hb4).cell 2 rfl
         rw [← HRM.out] at e2
         clear hal hx0 hszz hcd hcb hxn hb3)
      | (go_simp
         obtain ⟨xn, hxn⟩ : ∃ xn, xn = wq.heap.size := ⟨_, rfl⟩
         have hal : Below wq.heap.size wq (wq.alloc (.cells #[.slice none 0 0, .slice none 0 0, .int .i64 rm, .int .i64 0, .bool false] 42)) := (Below.refl _ _).alloc (Nat.le_refl _) _
         have hx0 := HX0.out wq
         have hxs : (wq.alloc (.cells #[.slice none 0 0, .slice none 0 0, .int .i64 rm, .int .i64 0, .bool false] 42)).heap.size = wq.heap.size + 1 := by simp
         have hbx := hbq.trans (hal.mono hbq.size)
         rw [← hxn] at hx0 hxs ⊢
         generalize wq.alloc (.cells #[.slice none 0 0, .slice none 0 0, .int .i64 rm, .int .i64 0, .bool false] 42) = wx at *
         clear e2 hal
         have e2 := (HBK.out.kept hbx).cell 2 rfl
         rw [← HRM.out] at e2)
      refine hK _ _ (by simp [owed, left] <;> (and_intros <;> first | trivial | assumption)) ?_
      clear hK K
      try simp only [List.getElem_toArray, List.getElem_cons_succ, List.getElem_cons_zero, Act.put, List.setIfInBounds_toArray, List.set_cons_zero, List.set_cons_succ]
      iterate 1 (refine planE_pure (v := ?_) rfl (by rfl) (fun w' => ?_) ?_; rotate_left; (focus (simp only [List.getElem_toArray, List.getElem_cons_succ, List.getElem_cons_zero]; go_simp; first | with_reducible rfl | (simp (disch := omega) only [if_pos, if_neg, dif_pos, Result.andThen_ok]; try with_reducible rfl) | skip)); try simp only [List.getElem_toArray, List.getElem_cons_succ, List.getElem_cons_zero, Act.put, List.setIfInBounds_toArray, List.set_cons_zero, List.set_cons_succ])
      refine planE_end ?_
    rotate_left
    focus
      refine planE_eff rfl (by rfl) (fun K hK => ?_)
      first
      | (guard_hyp hb3 : Below w2.heap.size w2 w3
         go_simp
         obtain ⟨xn, hxn⟩ : ∃ xn, xn = w3.heap.size := ⟨_, rfl⟩
         have hal : Below w3.heap.size w3 (w3.alloc (.cells #[.slice none 0 0, .slice none 0 0, .int .i64 rm, .int .i64 0, .bool false] 42)) := (Below.refl _ _).alloc (Nat.le_refl _) _
         have hx0 := HX0.out w3
         have hszz : (w3.alloc (.cells #[.slice none 0 0, .slice none 0 0, .int .i64 rm, .int .i64 0, .bool false] 42)).heap.size = w3.heap.size + 1 := by simp
         rw [← hxn] at hx0 hszz ⊢
         generalize w3.alloc (.cells #[.slice none 0 0, .slice none 0 0, .int .i64 rm, .int .i64 0, .bool false] 42) = w4 at *
         have hb4 := hb3.trans (hal.mono hb3.size)
         have HPX : Hid (Pair (News wq w3) (fun b => b = xn) (fun _ => False) w4 c2 D xn (dsk0 rm)) := Lib.hid ⟨hcd.below hal, hx0, fun b hb => ⟨fun e => by have := hb.2; omega, fun e => e⟩⟩
         have HNX : Hid (∀ b, News wq w3 b ∨ b = xn ∨ False → News w2 w4 b) := Lib.hid fun b hb => by
           have h1 := hbq.size
           have h2 := hb3.size
           have h3 := hal.size
           rcases hb with hb | hb | hb
           · exact ⟨by have := hb.1; omega, by have := hb.2; omega⟩
           · exact ⟨by omega, by omega⟩
           · exact hb.elim
         have HXN := Lib.hid hxn
         clear e2
         have e2 := (HBK.out.kept hb4).cell 2 rfl
         rw [← HRM.out] at e2
         clear hal hx0 hszz hcd hcb hxn hb3)
      | (go_simp
         obtain ⟨xn, hxn⟩ : ∃ xn, xn = wq.heap.size := ⟨_, rfl⟩
         have hal : Below wq.heap.size wq (wq.alloc (.cells #[.slice none 0 0, .slice none 0 0, .int .i64 rm, .int .i64 0, .bool false] 42)) := (Below.refl _ _).alloc (Nat.le_refl _) _
         have hx0 := HX0.out wq
         have hxs : (wq.alloc (.cells #[.slice none 0 0, .slice none 0 0, .int .i64 rm, .int .i64 0, .bool false] 42)).heap.size = wq.heap.size + 1 := by simp
         have hbx := hbq.trans (hal.mono hbq.size)
         rw [← hxn] at hx0 hxs ⊢
         generalize wq.alloc (.cells #[.slice none 0 0, .slice none 0 0, .int .i64 rm, .int .i64 0, .bool false] 42) = wx at *
         clear e2 hal
         have e2 := (HBK.out.kept hbx).cell 2 rfl
         rw [← HRM.out] at e2)
      refine hK _ _ (by simp [owed, left] <;> (and_intros <;> first | trivial | assumption)) ?_
      clear hK K
      try simp only [List.getElem_toArray, List.getElem_cons_succ, List.getElem_cons_zero, Act.put, List.setIfInBounds_toArray, List.set_cons_zero, List.set_cons_succ]
      refine planE_eff rfl (by rfl) (fun K hK => ?_)
      go_simp
      first
      | (guard_hyp hxn : xn = wq.heap.size
         refine (CP.out _ hbx).mono ?_
         rintro e w4 ⟨c2, rfl, hcd, hcb⟩
         have hb4 := hbx.trans (hcb.mono hbx.size)
         have hxx := (hx0.below hcb)
         have HPX : Hid (Pair (News wx w4) (fun b => b = xn) (fun _ => False) w4 c2 D xn (dsk0 rm)) := Lib.hid ⟨hcd, hxx, fun b hb => ⟨fun e => by have := hb.1; have := hxs; omega, fun e => e⟩⟩
         have HNX : Hid (∀ b, News wx w4 b ∨ b = xn ∨ False → News w2 w4 b) := Lib.hid fun b hb => by
           have h1 := hbq.size
           have h2 := hbx.size
           have h3 := hcb.size
           rcases hb with hb | hb | hb
           · exact ⟨by have := hb.1; omega, hb.2⟩
           · exact ⟨by omega, by omega⟩
           · exact hb.elim
         have HXN := Lib.hid hxn
         clear e2
         have e2 := (HBK.out.kept hb4).cell 2 rfl
         rw [← HRM.out] at e2
         clear hcd hcb hxx hx0 hxs hbx hxn)
      | (refine (CP.out _ hbq).mono ?_
         rintro e w3 ⟨c2, rfl, hcd, hcb⟩
         have hb3 := hbq.trans (hcb.mono hbq.size)
         clear e2
         have e2 := (HBK.out.kept hb3).cell 2 rfl
         rw [← HRM.out] at e2)
      refine hK _ _ (by simp [owed, left] <;> (and_intros <;> first | trivial | assumption)) ?_
      clear hK K
      try simp only [List.getElem_toArray, List.getElem_cons_succ, List.getElem_cons_zero, Act.put, List.setIfInBounds_toArray, List.set_cons_zero, List.set_cons_succ]
      iterate 2 (refine planE_pure (v := ?_) rfl (by rfl) (fun w' => ?_) ?_; rotate_left; (focus (simp only [List.getElem_toArray, List.getElem_cons_succ, List.getElem_cons_zero]; go_simp; first | with_reducible rfl | (simp (disch := omega) only [if_pos, if_neg, dif_pos, Result.andThen_ok]; try with_reducible rfl) | skip)); try simp only [List.getElem_toArray, List.getElem_cons_succ, List.getElem_cons_zero, Act.put, List.setIfInBounds_toArray, List.set_cons_zero, List.set_cons_succ])
      refine planE_end ?_
    all_goals
      clear CP HX0 hbq e2
      go_wp2_with fail
      go_meet
      exact ⟨c2, xn, _, _, _, rfl, by first | rfl | rw [HXN.out], HPX, HNX, hb4⟩
  case rest =>
    obtain ⟨c2, xn, T4, M4, S4, rfl, rfl, HP4, HN4, hb4⟩ := hcut
    obtain ⟨w4, hw4⟩ : ∃ w4, w4 = wc := ⟨_, rfl⟩
    rw [← hw4] at HP4 HN4 hb4 ⊢
    clear hw4 CP HX0 g2
    have HG0 := Lib.hid (good0 rm)
    go_upto_block 0 with fail
    go_cut [13] (fun s13 wx => Below w2.heap.size w2 wx)
    case first =>
      go_wp2_with fail
      go_loopw [13] (fun sk wr => ∃ (k : Nat) (T M S : Nat → Prop) (C E : DSt), k ≤ N.length ∧ k ≤ 100 ∧ sk = .int .i64 (k : Int) ∧ Hid (Pair T M S wr c2 C xn E) ∧ Hid (∀ b, T b ∨ M b ∨ S b → News w2 wr b) ∧ Hid (C.good (200 + k)) ∧ Hid (E.good k) ∧ Below w2.heap.size w2 wr) (fun sk _ => N.length - (intOf sk).toNat)
      case atStart => exact ⟨0, T4, M4, S4, D, dsk0 rm, Nat.zero_le _, by omega, rfl, HP4, HN4, HG, HG0, hb4⟩
      case round =>
        clear HP4 HN4 HG0 hb4
        obtain ⟨k, T5, M5, S5, C, E, hk, hk2, rfl, HP5, HN5, HC5, HE5, hB5⟩ := hrel
        have hBw : Below w.heap.size w wr := hb.trans (hB5.mono hsw)
        by_cases hlt : k < N.length
        · by_cases hlt2 : k < 100
          · obtain ⟨b, off, rfl, hbl, a0, a1, a2, a3, a4⟩ := (HA.out.below hBw).row hlt
            have HAOK := Lib.hid ((HA.out.2 _ (List.getElem_mem hlt)).below hBw)
            have HCL : Hid (0 < N[k].data.length → ∀ b, N[k].A.map (·.block) = some b → b < w.heap.size) := Lib.hid fun h0 b hb => RB.lt ((HA.out.2 _ (List.getElem_mem hlt)).rb) h0 b hb
            generalize N[k] = a at *
            obtain ⟨kind, name, n, A, ca, data, mask⟩ := a
            simp only at a0 a1 a2 a3 a4 HCL
            have SM := Lib.hid (lawSmall ⟨kind, name, n, A, ca, data, mask⟩ wr)
            have hlt1 : k + 1 ≤ N.length := hlt
            have hlt3 : k + 1 ≤ 100 := hlt2
            have ha0 := a0
            have ha1 := a1
            have ha2 := a2
            have ha3 := a3
            have ha4 := a4
            go_wp2_with fail
            refine SM.out.mono ?_
            rintro e w6 ⟨rfl, hb6⟩
            have hB6 := hB5.trans (hb6.mono hB5.size)
            have HP6 := Lib.hid (HP5.out.below hb6)
            have HN6 : Hid (∀ b, T5 b ∨ M5 b ∨ S5 b → News w2 w6 b) := Lib.hid fun b hb => ⟨(HN5.out b hb).1, Nat.lt_of_lt_of_le (HN5.out b hb).2 hb6.size⟩
            have HC6 := Lib.hid (HC5.out.mono (Nat.le_succ (200 + k)))
            have HE6 := Lib.hid (HE5.out.mono (Nat.le_succ k))
            have HACT := Lib.hid (lawAct kind name n data A ca mask HP6.out (HAOK.out.rb.below hb6) (fun h0 b hb => ⟨fun hT => by have := HCL.out h0 b hb; have := (HN6.out b (.inl hT)).1; omega, fun hT => by have := HCL.out h0 b hb; have := (HN6.out b (.inr (.inl hT))).1; omega⟩) (Nat.le_trans HC5.out.1 (by omega)) (Nat.le_trans HE5.out.1 (by omega)) HAOK.out.name HAOK.out.n HAOK.out.len HAOK.out.mask)
            have c0 := (hb6.cell (p := ⟨b, off + k * 5, none⟩) hbl).trans ha0
            have c1 := (hb6.cell (p := ⟨b, off + k * 5 + 1, none⟩) hbl).trans ha1
            have c2' := (hb6.cell (p := ⟨b, off + k * 5 + 2, none⟩) hbl).trans ha2
            have c3 := (hb6.cell (p := ⟨b, off + k * 5 + 3, none⟩) hbl).trans ha3
            have c4 := (hb6.cell (p := ⟨b, off + k * 5 + 4, none⟩) hbl).trans ha4
            clear SM HCL HP5 HN5 hB5 hBw hb6 a0 a1 a2 a3 a4 ha0 ha1 ha2 ha3 ha4
            cases hsm : AF.small ⟨kind, name, n, A, ca, data, mask⟩
            · clear hsm HACT
              go_wp2_with fail
              go_roundw
              case rel => exact ⟨k + 1, T5, M5, S5, C, E, hlt1, hlt3, by go_num, HP6, HN6, HC6, HE6, hB6⟩
              case measure => simp [intOf]; omega
            · clear hsm
              have HCA := Lib.hid (HC5.out.act kind name n data mask)
              have HEA := Lib.hid (HE5.out.act kind name n data mask)
              go_wp2_with fail
              refine HACT.out.mono ?_
              rintro e w7 ⟨bb, rfl, _, hp7⟩
              obtain ⟨T', M', S', hp', hn', hB7⟩ := hp7.old HN6.out hB6
              have HP7 := Lib.hid hp'
              have HN7 := Lib.hid hn'
              clear hp7 hp' hn' HACT c0 c1 c2' c3 c4 HP6 HN6 hB6 HC6 HE6 HAOK HC5 HE5
              go_wp2_with fail
              go_roundw
              case rel => exact ⟨k + 1, T', M', S', _, _, hlt1, hlt3, by go_num, HP7, HN7, HCA, HEA, hB7⟩
              case measure => simp [intOf]; omega
          · have hlt4 : ¬ (k : Int) < 100 := by omega
            clear HP5 HN5 HC5 HE5 HA hBw
            go_wp2_with fail
            go_meet
            exact hB5
        · clear HP5 HN5 HC5 HE5 HA hBw
          go_wp2_with fail
          go_meet
          exact hB5
    case rest =>
      clear HP4 HN4 HG0 hb4 HA
      obtain ⟨wr, hwr⟩ : ∃ wr, wr = wc := ⟨_, rfl⟩
      rw [← hwr] at hcut ⊢
      clear hwr
      have HTAIL := Lib.hid hcut
      clear hcut
      have hB5 : Below w2.heap.size w2 wr := HTAIL.out
      clear HTAIL
      have HPR := Lib.hid (HP.out.below hB5)
      have AK := Lib.hid (lawAlike HPR.out hcnt HG.out.2)
      go_wp2_with fail
      refine AK.out.mono ?_
      rintro e w8 ⟨rfl, hb8⟩
      have hB8 := hB5.trans (hb8.mono hB5.size)
      have hBw8 := hb.trans (hB8.mono hsw)
      have HP8 := Lib.hid (HP.out.below hB8)
      have HR8 := Lib.hid (HRR.out.below hB8)
      have HT8 : Hid (∀ b, T b → News w w8 b) := Lib.hid fun b hb => ⟨(HN.out b (.inl hb)).1, by have := (HN.out b (.inl hb)).2; have := hB8.size; omega⟩
      have HDA8 := Lib.hid (HDA.out.below hBw8)
      have e4 := HR8.out.blk.cell 4 rfl
      have e3 := HR8.out.blk.cell 3 rfl
      have e2 := HR8.out.blk.cell 2 rfl
      have FL := Lib.hid (fun w' (hb : Below w8.heap.size w8 w') => refFiles (HR8.out.below hb) hcnt)
      have hfs := DSt.size_le HOK.out HP8.out.di.ris hcnt
      have hfl : D.files.length ≤ 1000000 := Nat.le_trans (DSt.files_len D) hcnt
      have HRIS := Lib.hid HP8.out.di.ris
      have HDI := Lib.hid HP8.out.di
      obtain ⟨dn, hdn⟩ : ∃ dn, dn = D.down := ⟨_, rfl⟩
      obtain ⟨fu, hfu⟩ : ∃ fu, fu = D.fuse := ⟨_, rfl⟩
      rw [← hdn] at e4
      rw [← hfu] at e3
      rw [← HRM.out] at e2
      have HDN := Lib.hid hdn
      have HFU := Lib.hid hfu
      obtain ⟨fD, hfD⟩ : ∃ fD, fD = fsize D.files := ⟨_, rfl⟩
      have HFD := Lib.hid hfD
      rw [← hfD] at hfs
      have HBK8 := Lib.hid HR8.out.blk
      clear AK hb8 hB5 HPR HP8 HR8 hdn hfu hfD HRR HBK HG2
      cases dn
      case true =>
        go_wp2_with fail
        refine wp_region_planE_gen (by kernel_rfl) [(0, none), (1, none), (2, none), (3, none), (4, none), (5, none), (6, none), (7, none), (8, none), (9, none), (10, none), (11, none), (12, none), (13, none), (14, none), (15, none), (16, none), (17, none), (18, none), (19, none), (20, none), (21, none), (22, none), (23, none), (24, none), (25, none), (26, none), (27, none), (28, none), (29, none), (30, none), (31, none), (32, none), (33, none), (34, none)] (by kernel_rfl) (by kernel_rfl) (by decide) ?_
        intro wq hwq
        have hbq : Below w8.heap.size w8 wq := by rw [hwq]; exact (Below.refl _ _).drew
        clear hwq e4 e3 e2
        have e4 := (HBK8.out.kept hbq).cell 4 rfl
        have e3 := (HBK8.out.kept hbq).cell 3 rfl
        have e2 := (HBK8.out.kept hbq).cell 2 rfl
        rw [← HDN.out] at e4
        rw [← HFU.out] at e3
        rw [← HRM.out] at e2
        have hBF := hBw8.trans (hbq.mono hBw8.size)
        iterate 3 (refine planE_pure (v := ?_) rfl (by rfl) (fun w' => ?_) ?_; rotate_left; (focus (simp only [List.getElem_toArray, List.getElem_cons_succ, List.getElem_cons_zero]; go_simp; first | with_reducible rfl | (simp (disch := omega) only [if_pos, if_neg, dif_pos, Result.andThen_ok]; try with_reducible rfl) | skip)); try simp only [List.getElem_toArray, List.getElem_cons_succ, List.getElem_cons_zero, Act.put, List.setIfInBounds_toArray, List.set_cons_zero, List.set_cons_succ])
        refine planE_cells (v := ?_) [(⟨g, 4, none⟩, _)] (by simp; and_intros <;> assumption) rfl (by rfl) (fun w' hw' => ?_) ?_; rotate_left; (focus (simp only [List.forall_mem_cons, List.not_mem_nil, false_imp_iff, implies_true, and_true] at hw'; simp only [List.getElem_toArray, List.getElem_cons_succ, List.getElem_cons_zero]; go_simp; first | with_reducible rfl | (simp (disch := omega) only [if_pos, if_neg, dif_pos, Result.andThen_ok]; try with_reducible rfl) | skip)); try simp only [List.getElem_toArray, List.getElem_cons_succ, List.getElem_cons_zero, Act.put, List.setIfInBounds_toArray, List.set_cons_zero, List.set_cons_succ]
        iterate 1 (refine planE_pure (v := ?_) rfl (by rfl) (fun w' => ?_) ?_; rotate_left; (focus (simp only [List.getElem_toArray, List.getElem_cons_succ, List.getElem_cons_zero]; go_simp; first | with_reducible rfl | (simp (disch := omega) only [if_pos, if_neg, dif_pos, Result.andThen_ok]; try with_reducible rfl) | skip)); try simp only [List.getElem_toArray, List.getElem_cons_succ, List.getElem_cons_zero, Act.put, List.setIfInBounds_toArray, List.set_cons_zero, List.set_cons_succ])
        refine planE_skip rfl (by rfl) ?_
        try simp only [List.getElem_toArray, List.getElem_cons_succ, List.getElem_cons_zero, Act.put, List.setIfInBounds_toArray, List.set_cons_zero, List.set_cons_succ]
        refine planE_skip rfl (by rfl) ?_
        try simp only [List.getElem_toArray, List.getElem_cons_succ, List.getElem_cons_zero, Act.put, List.setIfInBounds_toArray, List.set_cons_zero, List.set_cons_succ]
        refine planE_skip rfl (by rfl) ?_
        try simp only [List.getElem_toArray, List.getElem_cons_succ, List.getElem_cons_zero, Act.put, List.setIfInBounds_toArray, List.set_cons_zero, List.set_cons_succ]
        refine planE_skip rfl (by rfl) ?_
        try simp only [List.getElem_toArray, List.getElem_cons_succ, List.getElem_cons_zero, Act.put, List.setIfInBounds_toArray, List.set_cons_zero, List.set_cons_succ]
        refine planE_skip rfl (by rfl) ?_
        try simp only [List.getElem_toArray, List.getElem_cons_succ, List.getElem_cons_zero, Act.put, List.setIfInBounds_toArray, List.set_cons_zero, List.set_cons_succ]
        iterate 2 (refine planE_pure (v := ?_) rfl (by rfl) (fun w' => ?_) ?_; rotate_left; (focus (simp only [List.getElem_toArray, List.getElem_cons_succ, List.getElem_cons_zero]; go_simp; first | with_reducible rfl | (simp (disch := omega) only [if_pos, if_neg, dif_pos, Result.andThen_ok]; try with_reducible rfl) | skip)); try simp only [List.getElem_toArray, List.getElem_cons_succ, List.getElem_cons_zero, Act.put, List.setIfInBounds_toArray, List.set_cons_zero, List.set_cons_succ])
        refine planE_skip rfl (by rfl) ?_
        try simp only [List.getElem_toArray, List.getElem_cons_succ, List.getElem_cons_zero, Act.put, List.setIfInBounds_toArray, List.set_cons_zero, List.set_cons_succ]
        refine planE_skip rfl (by rfl) ?_
        try simp only [List.getElem_toArray, List.getElem_cons_succ, List.getElem_cons_zero, Act.put, List.setIfInBounds_toArray, List.set_cons_zero, List.set_cons_succ]
        refine planE_skip rfl (by rfl) ?_
        try simp only [List.getElem_toArray, List.getElem_cons_succ, List.getElem_cons_zero, Act.put, List.setIfInBounds_toArray, List.set_cons_zero, List.set_cons_succ]
        iterate 2 (refine planE_pure (v := ?_) rfl (by rfl) (fun w' => ?_) ?_; rotate_left; (focus (simp only [List.getElem_toArray, List.getElem_cons_succ, List.getElem_cons_zero]; go_simp; first | with_reducible rfl | (simp (disch := omega) only [if_pos, if_neg, dif_pos, Result.andThen_ok]; try with_reducible rfl) | skip)); try simp only [List.getElem_toArray, List.getElem_cons_succ, List.getElem_cons_zero, Act.put, List.setIfInBounds_toArray, List.set_cons_zero, List.set_cons_succ])
        refine planE_skip rfl (by rfl) ?_
        try simp only [List.getElem_toArray, List.getElem_cons_succ, List.getElem_cons_zero, Act.put, List.setIfInBounds_toArray, List.set_cons_zero, List.set_cons_succ]
        refine planE_skip rfl (by rfl) ?_
        try simp only [List.getElem_toArray, List.getElem_cons_succ, List.getElem_cons_zero, Act.put, List.setIfInBounds_toArray, List.set_cons_zero, List.set_cons_succ]
        refine planE_skip rfl (by rfl) ?_
        try simp only [List.getElem_toArray, List.getElem_cons_succ, List.getElem_cons_zero, Act.put, List.setIfInBounds_toArray, List.set_cons_zero, List.set_cons_succ]
        refine planE_skip rfl (by rfl) ?_
        try simp only [List.getElem_toArray, List.getElem_cons_succ, List.getElem_cons_zero, Act.put, List.setIfInBounds_toArray, List.set_cons_zero, List.set_cons_succ]
        refine planE_skip rfl (by rfl) ?_
        try simp only [List.getElem_toArray, List.getElem_cons_succ, List.getElem_cons_zero, Act.put, List.setIfInBounds_toArray, List.set_cons_zero, List.set_cons_succ]
        refine planE_skip rfl (by rfl) ?_
        try simp only [List.getElem_toArray, List.getElem_cons_succ, List.getElem_cons_zero, Act.put, List.setIfInBounds_toArray, List.set_cons_zero, List.set_cons_succ]
        refine planE_skip rfl (by rfl) ?_
        try simp only [List.getElem_toArray, List.getElem_cons_succ, List.getElem_cons_zero, Act.put, List.setIfInBounds_toArray, List.set_cons_zero, List.set_cons_succ]
        refine planE_skip rfl (by rfl) ?_
        try simp only [List.getElem_toArray, List.getElem_cons_succ, List.getElem_cons_zero, Act.put, List.setIfInBounds_toArray, List.set_cons_zero, List.set_cons_succ]
        refine planE_skip rfl (by rfl) ?_
        try simp only [List.getElem_toArray, List.getElem_cons_succ, List.getElem_cons_zero, Act.put, List.setIfInBounds_toArray, List.set_cons_zero, List.set_cons_succ]
        refine planE_skip rfl (by rfl) ?_
        try simp only [List.getElem_toArray, List.getElem_cons_succ, List.getElem_cons_zero, Act.put, List.setIfInBounds_toArray, List.set_cons_zero, List.set_cons_succ]
        refine planE_skip rfl (by rfl) ?_
        try simp only [List.getElem_toArray, List.getElem_cons_succ, List.getElem_cons_zero, Act.put, List.setIfInBounds_toArray, List.set_cons_zero, List.set_cons_succ]
        iterate 2 (refine planE_pure (v := ?_) rfl (by rfl) (fun w' => ?_) ?_; rotate_left; (focus (simp only [List.getElem_toArray, List.getElem_cons_succ, List.getElem_cons_zero]; go_simp; first | with_reducible rfl | (simp (disch := omega) only [if_pos, if_neg, dif_pos, Result.andThen_ok]; try with_reducible rfl) | skip)); try simp only [List.getElem_toArray, List.getElem_cons_succ, List.getElem_cons_zero, Act.put, List.setIfInBounds_toArray, List.set_cons_zero, List.set_cons_succ])
        refine planE_skip rfl (by rfl) ?_
        try simp only [List.getElem_toArray, List.getElem_cons_succ, List.getElem_cons_zero, Act.put, List.setIfInBounds_toArray, List.set_cons_zero, List.set_cons_succ]
        refine planE_skip rfl (by rfl) ?_
        try simp only [List.getElem_toArray, List.getElem_cons_succ, List.getElem_cons_zero, Act.put, List.setIfInBounds_toArray, List.set_cons_zero, List.set_cons_succ]
        refine planE_skip rfl (by rfl) ?_
        try simp only [List.getElem_toArray, List.getElem_cons_succ, List.getElem_cons_zero, Act.put, List.setIfInBounds_toArray, List.set_cons_zero, List.set_cons_succ]
        refine planE_skip rfl (by rfl) ?_
        try simp only [List.getElem_toArray, List.getElem_cons_succ, List.getElem_cons_zero, Act.put, List.setIfInBounds_toArray, List.set_cons_zero, List.set_cons_succ]
        iterate 1 (refine planE_pure (v := ?_) rfl (by rfl) (fun w' => ?_) ?_; rotate_left; (focus (simp only [List.getElem_toArray, List.getElem_cons_succ, List.getElem_cons_zero]; go_simp; first | with_reducible rfl | (simp (disch := omega) only [if_pos, if_neg, dif_pos, Result.andThen_ok]; try with_reducible rfl) | skip)); try simp only [List.getElem_toArray, List.getElem_cons_succ, List.getElem_cons_zero, Act.put, List.setIfInBounds_toArray, List.set_cons_zero, List.set_cons_succ])
        refine planE_end ?_
        go_wp2_with fail
        go_ret
        exact ⟨rfl, hBF⟩
      case false =>
        by_cases hfz : 0 < fu
        · have hfzz : decide (0 < fu) = true := decide_eq_true hfz
          go_wp2_with fail
          refine wp_region_planE_gen (by kernel_rfl) [(0, none), (1, none), (2, none), (3, none), (4, none), (5, none), (6, none), (7, none), (8, none), (9, none), (10, none), (11, none), (12, none), (13, none), (14, none), (15, none), (16, none), (17, none), (18, none), (19, none), (20, none), (21, none), (22, none), (23, none), (24, none), (25, none), (26, none), (27, none), (28, none), (29, none), (30, none), (31, none), (32, none), (33, none), (34, none)] (by kernel_rfl) (by kernel_rfl) (by decide) ?_
          intro wq hwq
          have hbq : Below w8.heap.size w8 wq := by rw [hwq]; exact (Below.refl _ _).drew
          clear hwq e4 e3 e2
          have e4 := (HBK8.out.kept hbq).cell 4 rfl
          have e3 := (HBK8.out.kept hbq).cell 3 rfl
          have e2 := (HBK8.out.kept hbq).cell 2 rfl
          rw [← HDN.out] at e4
          rw [← HFU.out] at e3
          rw [← HRM.out] at e2
          have hBF := hBw8.trans (hbq.mono hBw8.size)
          iterate 3 (refine planE_pure (v := ?_) rfl (by rfl) (fun w' => ?_) ?_; rotate_left; (focus (simp only [List.getElem_toArray, List.getElem_cons_succ, List.getElem_cons_zero]; go_simp; first | with_reducible rfl | (simp (disch := omega) only [if_pos, if_neg, dif_pos, Result.andThen_ok]; try with_reducible rfl) | skip)); try simp only [List.getElem_toArray, List.getElem_cons_succ, List.getElem_cons_zero, Act.put, List.setIfInBounds_toArray, List.set_cons_zero, List.set_cons_succ])
          refine planE_cells (v := ?_) [(⟨g, 4, none⟩, _)] (by simp; and_intros <;> assumption) rfl (by rfl) (fun w' hw' => ?_) ?_; rotate_left; (focus (simp only [List.forall_mem_cons, List.not_mem_nil, false_imp_iff, implies_true, and_true] at hw'; simp only [List.getElem_toArray, List.getElem_cons_succ, List.getElem_cons_zero]; go_simp; first | with_reducible rfl | (simp (disch := omega) only [if_pos, if_neg, dif_pos, Result.andThen_ok]; try with_reducible rfl) | skip)); try simp only [List.getElem_toArray, List.getElem_cons_succ, List.getElem_cons_zero, Act.put, List.setIfInBounds_toArray, List.set_cons_zero, List.set_cons_succ]
          iterate 4 (refine planE_pure (v := ?_) rfl (by rfl) (fun w' => ?_) ?_; rotate_left; (focus (simp only [List.getElem_toArray, List.getElem_cons_succ, List.getElem_cons_zero]; go_simp; first | with_reducible rfl | (simp (disch := omega) only [if_pos, if_neg, dif_pos, Result.andThen_ok]; try with_reducible rfl) | skip)); try simp only [List.getElem_toArray, List.getElem_cons_succ, List.getElem_cons_zero, Act.put, List.setIfInBounds_toArray, List.set_cons_zero, List.set_cons_succ])
          refine planE_cells (v := ?_) [(⟨g, 3, none⟩, .int .i64 fu)] (by simp; and_intros <;> assumption) rfl (by rfl) (fun w' hw' => ?_) ?_; rotate_left; (focus (simp only [List.forall_mem_cons, List.not_mem_nil, false_imp_iff, implies_true, and_true] at hw'; simp only [List.getElem_toArray, List.getElem_cons_succ, List.getElem_cons_zero]; go_simp; first | with_reducible rfl | (simp (disch := omega) only [if_pos, if_neg, dif_pos, Result.andThen_ok]; try with_reducible rfl) | skip)); try simp only [List.getElem_toArray, List.getElem_cons_succ, List.getElem_cons_zero, Act.put, List.setIfInBounds_toArray, List.set_cons_zero, List.set_cons_succ]
          iterate 3 (refine planE_pure (v := ?_) rfl (by rfl) (fun w' => ?_) ?_; rotate_left; (focus (simp only [List.getElem_toArray, List.getElem_cons_succ, List.getElem_cons_zero]; go_simp; first | with_reducible rfl | (simp (disch := omega) only [if_pos, if_neg, dif_pos, Result.andThen_ok]; try with_reducible rfl) | skip)); try simp only [List.getElem_toArray, List.getElem_cons_succ, List.getElem_cons_zero, Act.put, List.setIfInBounds_toArray, List.set_cons_zero, List.set_cons_succ])
          refine planE_skip rfl (by rfl) ?_
          try simp only [List.getElem_toArray, List.getElem_cons_succ, List.getElem_cons_zero, Act.put, List.setIfInBounds_toArray, List.set_cons_zero, List.set_cons_succ]
          refine planE_skip rfl (by rfl) ?_
          try simp only [List.getElem_toArray, List.getElem_cons_succ, List.getElem_cons_zero, Act.put, List.setIfInBounds_toArray, List.set_cons_zero, List.set_cons_succ]
          refine planE_skip rfl (by rfl) ?_
          try simp only [List.getElem_toArray, List.getElem_cons_succ, List.getElem_cons_zero, Act.put, List.setIfInBounds_toArray, List.set_cons_zero, List.set_cons_succ]
          iterate 2 (refine planE_pure (v := ?_) rfl (by rfl) (fun w' => ?_) ?_; rotate_left; (focus (simp only [List.getElem_toArray, List.getElem_cons_succ, List.getElem_cons_zero]; go_simp; first | with_reducible rfl | (simp (disch := omega) only [if_pos, if_neg, dif_pos, Result.andThen_ok]; try with_reducible rfl) | skip)); try simp only [List.getElem_toArray, List.getElem_cons_succ, List.getElem_cons_zero, Act.put, List.setIfInBounds_toArray, List.set_cons_zero, List.set_cons_succ])
          refine planE_skip rfl (by rfl) ?_
          try simp only [List.getElem_toArray, List.getElem_cons_succ, List.getElem_cons_zero, Act.put, List.setIfInBounds_toArray, List.set_cons_zero, List.set_cons_succ]
          refine planE_skip rfl (by rfl) ?_
          try simp only [List.getElem_toArray, List.getElem_cons_succ, List.getElem_cons_zero, Act.put, List.setIfInBounds_toArray, List.set_cons_zero, List.set_cons_succ]
          refine planE_skip rfl (by rfl) ?_
          try simp only [List.getElem_toArray, List.getElem_cons_succ, List.getElem_cons_zero, Act.put, List.setIfInBounds_toArray, List.set_cons_zero, List.set_cons_succ]
          refine planE_skip rfl (by rfl) ?_
          try simp only [List.getElem_toArray, List.getElem_cons_succ, List.getElem_cons_zero, Act.put, List.setIfInBounds_toArray, List.set_cons_zero, List.set_cons_succ]
          refine planE_skip rfl (by rfl) ?_
          try simp only [List.getElem_toArray, List.getElem_cons_succ, List.getElem_cons_zero, Act.put, List.setIfInBounds_toArray, List.set_cons_zero, List.set_cons_succ]
          refine planE_skip rfl (by rfl) ?_
          try simp only [List.getElem_toArray, List.getElem_cons_succ, List.getElem_cons_zero, Act.put, List.setIfInBounds_toArray, List.set_cons_zero, List.set_cons_succ]
          refine planE_skip rfl (by rfl) ?_
          try simp only [List.getElem_toArray, List.getElem_cons_succ, List.getElem_cons_zero, Act.put, List.setIfInBounds_toArray, List.set_cons_zero, List.set_cons_succ]
          refine planE_skip rfl (by rfl) ?_
          try simp only [List.getElem_toArray, List.getElem_cons_succ, List.getElem_cons_zero, Act.put, List.setIfInBounds_toArray, List.set_cons_zero, List.set_cons_succ]
          refine planE_skip rfl (by rfl) ?_
          try simp only [List.getElem_toArray, List.getElem_cons_succ, List.getElem_cons_zero, Act.put, List.setIfInBounds_toArray, List.set_cons_zero, List.set_cons_succ]
          refine planE_skip rfl (by rfl) ?_
          try simp only [List.getElem_toArray, List.getElem_cons_succ, List.getElem_cons_zero, Act.put, List.setIfInBounds_toArray, List.set_cons_zero, List.set_cons_succ]
          refine planE_skip rfl (by rfl) ?_
          try simp only [List.getElem_toArray, List.getElem_cons_succ, List.getElem_cons_zero, Act.put, List.setIfInBounds_toArray, List.set_cons_zero, List.set_cons_succ]
          iterate 2 (refine planE_pure (v := ?_) rfl (by rfl) (fun w' => ?_) ?_; rotate_left; (focus (simp only [List.getElem_toArray, List.getElem_cons_succ, List.getElem_cons_zero]; go_simp; first | with_reducible rfl | (simp (disch := omega) only [if_pos, if_neg, dif_pos, Result.andThen_ok]; try with_reducible rfl) | skip)); try simp only [List.getElem_toArray, List.getElem_cons_succ, List.getElem_cons_zero, Act.put, List.setIfInBounds_toArray, List.set_cons_zero, List.set_cons_succ])
          refine planE_skip rfl (by rfl) ?_
          try simp only [List.getElem_toArray, List.getElem_cons_succ, List.getElem_cons_zero, Act.put, List.setIfInBounds_toArray, List.set_cons_zero, List.set_cons_succ]
          refine planE_skip rfl (by rfl) ?_
          try simp only [List.getElem_toArray, List.getElem_cons_succ, List.getElem_cons_zero, Act.put, List.setIfInBounds_toArray, List.set_cons_zero, List.set_cons_succ]
          refine planE_skip rfl (by rfl) ?_
          try simp only [List.getElem_toArray, List.getElem_cons_succ, List.getElem_cons_zero, Act.put, List.setIfInBounds_toArray, List.set_cons_zero, List.set_cons_succ]
          refine planE_skip rfl (by rfl) ?_
          try simp only [List.getElem_toArray, List.getElem_cons_succ, List.getElem_cons_zero, Act.put, List.setIfInBounds_toArray, List.set_cons_zero, List.set_cons_succ]
          iterate 1 (refine planE_pure (v := ?_) rfl (by rfl) (fun w' => ?_) ?_; rotate_left; (focus (simp only [List.getElem_toArray, List.getElem_cons_succ, List.getElem_cons_zero]; go_simp; first | with_reducible rfl | (simp (disch := omega) only [if_pos, if_neg, dif_pos, Result.andThen_ok]; try with_reducible rfl) | skip)); try simp only [List.getElem_toArray, List.getElem_cons_succ, List.getElem_cons_zero, Act.put, List.setIfInBounds_toArray, List.set_cons_zero, List.set_cons_succ])
          refine planE_end ?_
          go_wp2_with fail
          go_ret
          exact ⟨rfl, hBF⟩
        have hfzz : decide (0 < fu) = false := decide_eq_false hfz
        by_cases hdz : 1000 < dat.length
        · have hdzz : decide ((1000 : Int) < (dat.length : Int)) = true := decide_eq_true (by omega)
          go_wp2_with fail
          refine wp_region_planE_gen (by kernel_rfl) [(0, none), (1, none), (2, none), (3, none), (4, none), (5, none), (6, none), (7, none), (8, none), (9, none), (10, none), (11, none), (12, none), (13, none), (14, none), (15, none), (16, none), (17, none), (18, none), (19, none), (20, none), (21, none), (22, none), (23, none), (24, none), (25, none), (26, none), (27, none), (28, none), (29, none), (30, none), (31, none), (32, none), (33, none), (34, none)] (by kernel_rfl) (by kernel_rfl) (by decide) ?_
          intro wq hwq
          have hbq : Below w8.heap.size w8 wq := by rw [hwq]; exact (Below.refl _ _).drew
          clear hwq e4 e3 e2
          have e4 := (HBK8.out.kept hbq).cell 4 rfl
          have e3 := (HBK8.out.kept hbq).cell 3 rfl
          have e2 := (HBK8.out.kept hbq).cell 2 rfl
          rw [← HDN.out] at e4
          rw [← HFU.out] at e3
          rw [← HRM.out] at e2
          have hBF := hBw8.trans (hbq.mono hBw8.size)
          iterate 3 (refine planE_pure (v := ?_) rfl (by rfl) (fun w' => ?_) ?_; rotate_left; (focus (simp only [List.getElem_toArray, List.getElem_cons_succ, List.getElem_cons_zero]; go_simp; first | with_reducible rfl | (simp (disch := omega) only [if_pos, if_neg, dif_pos, Result.andThen_ok]; try with_reducible rfl) | skip)); try simp only [List.getElem_toArray, List.getElem_cons_succ, List.getElem_cons_zero, Act.put, List.setIfInBounds_toArray, List.set_cons_zero, List.set_cons_succ])
          refine planE_cells (v := ?_) [(⟨g, 4, none⟩, _)] (by simp; and_intros <;> assumption) rfl (by rfl) (fun w' hw' => ?_) ?_; rotate_left; (focus (simp only [List.forall_mem_cons, List.not_mem_nil, false_imp_iff, implies_true, and_true] at hw'; simp only [List.getElem_toArray, List.getElem_cons_succ, List.getElem_cons_zero]; go_simp; first | with_reducible rfl | (simp (disch := omega) only [if_pos, if_neg, dif_pos, Result.andThen_ok]; try with_reducible rfl) | skip)); try simp only [List.getElem_toArray, List.getElem_cons_succ, List.getElem_cons_zero, Act.put, List.setIfInBounds_toArray, List.set_cons_zero, List.set_cons_succ]
          iterate 4 (refine planE_pure (v := ?_) rfl (by rfl) (fun w' => ?_) ?_; rotate_left; (focus (simp only [List.getElem_toArray, List.getElem_cons_succ, List.getElem_cons_zero]; go_simp; first | with_reducible rfl | (simp (disch := omega) only [if_pos, if_neg, dif_pos, Result.andThen_ok]; try with_reducible rfl) | skip)); try simp only [List.getElem_toArray, List.getElem_cons_succ, List.getElem_cons_zero, Act.put, List.setIfInBounds_toArray, List.set_cons_zero, List.set_cons_succ])
          refine planE_cells (v := ?_) [(⟨g, 3, none⟩, .int .i64 fu)] (by simp; and_intros <;> assumption) rfl (by rfl) (fun w' hw' => ?_) ?_; rotate_left; (focus (simp only [List.forall_mem_cons, List.not_mem_nil, false_imp_iff, implies_true, and_true] at hw'; simp only [List.getElem_toArray, List.getElem_cons_succ, List.getElem_cons_zero]; go_simp; first | with_reducible rfl | (simp (disch := omega) only [if_pos, if_neg, dif_pos, Result.andThen_ok]; try with_reducible rfl) | skip)); try simp only [List.getElem_toArray, List.getElem_cons_succ, List.getElem_cons_zero, Act.put, List.setIfInBounds_toArray, List.set_cons_zero, List.set_cons_succ]
          iterate 8 (refine planE_pure (v := ?_) rfl (by rfl) (fun w' => ?_) ?_; rotate_left; (focus (simp only [List.getElem_toArray, List.getElem_cons_succ, List.getElem_cons_zero]; go_simp; first | with_reducible rfl | (simp (disch := omega) only [if_pos, if_neg, dif_pos, Result.andThen_ok]; try with_reducible rfl) | skip)); try simp only [List.getElem_toArray, List.getElem_cons_succ, List.getElem_cons_zero, Act.put, List.setIfInBounds_toArray, List.set_cons_zero, List.set_cons_succ])
          refine planE_skip rfl (by rfl) ?_
          try simp only [List.getElem_toArray, List.getElem_cons_succ, List.getElem_cons_zero, Act.put, List.setIfInBounds_toArray, List.set_cons_zero, List.set_cons_succ]
          refine planE_skip rfl (by rfl) ?_
          try simp only [List.getElem_toArray, List.getElem_cons_succ, List.getElem_cons_zero, Act.put, List.setIfInBounds_toArray, List.set_cons_zero, List.set_cons_succ]
          refine planE_skip rfl (by rfl) ?_
          try simp only [List.getElem_toArray, List.getElem_cons_succ, List.getElem_cons_zero, Act.put, List.setIfInBounds_toArray, List.set_cons_zero, List.set_cons_succ]
          refine planE_skip rfl (by rfl) ?_
          try simp only [List.getElem_toArray, List.getElem_cons_succ, List.getElem_cons_zero, Act.put, List.setIfInBounds_toArray, List.set_cons_zero, List.set_cons_succ]
          refine planE_skip rfl (by rfl) ?_
          try simp only [List.getElem_toArray, List.getElem_cons_succ, List.getElem_cons_zero, Act.put, List.setIfInBounds_toArray, List.set_cons_zero, List.set_cons_succ]
          refine planE_skip rfl (by rfl) ?_
          try simp only [List.getElem_toArray, List.getElem_cons_succ, List.getElem_cons_zero, Act.put, List.setIfInBounds_toArray, List.set_cons_zero, List.set_cons_succ]
          refine planE_skip rfl (by rfl) ?_
          try simp only [List.getElem_toArray, List.getElem_cons_succ, List.getElem_cons_zero, Act.put, List.setIfInBounds_toArray, List.set_cons_zero, List.set_cons_succ]
          refine planE_skip rfl (by rfl) ?_
          try simp only [List.getElem_toArray, List.getElem_cons_succ, List.getElem_cons_zero, Act.put, List.setIfInBounds_toArray, List.set_cons_zero, List.set_cons_succ]
          refine planE_skip rfl (by rfl) ?_
          try simp only [List.getElem_toArray, List.getElem_cons_succ, List.getElem_cons_zero, Act.put, List.setIfInBounds_toArray, List.set_cons_zero, List.set_cons_succ]
          refine planE_skip rfl (by rfl) ?_
          try simp only [List.getElem_toArray, List.getElem_cons_succ, List.getElem_cons_zero, Act.put, List.setIfInBounds_toArray, List.set_cons_zero, List.set_cons_succ]
          refine planE_skip rfl (by rfl) ?_
          try simp only [List.getElem_toArray, List.getElem_cons_succ, List.getElem_cons_zero, Act.put, List.setIfInBounds_toArray, List.set_cons_zero, List.set_cons_succ]
          iterate 2 (refine planE_pure (v := ?_) rfl (by rfl) (fun w' => ?_) ?_; rotate_left; (focus (simp only [List.getElem_toArray, List.getElem_cons_succ, List.getElem_cons_zero]; go_simp; first | with_reducible rfl | (simp (disch := omega) only [if_pos, if_neg, dif_pos, Result.andThen_ok]; try with_reducible rfl) | skip)); try simp only [List.getElem_toArray, List.getElem_cons_succ, List.getElem_cons_zero, Act.put, List.setIfInBounds_toArray, List.set_cons_zero, List.set_cons_succ])
          refine planE_skip rfl (by rfl) ?_
          try simp only [List.getElem_toArray, List.getElem_cons_succ, List.getElem_cons_zero, Act.put, List.setIfInBounds_toArray, List.set_cons_zero, List.set_cons_succ]
          refine planE_skip rfl (by rfl) ?_
          try simp only [List.getElem_toArray, List.getElem_cons_succ, List.getElem_cons_zero, Act.put, List.setIfInBounds_toArray, List.set_cons_zero, List.set_cons_succ]
          refine planE_skip rfl (by rfl) ?_
          try simp only [List.getElem_toArray, List.getElem_cons_succ, List.getElem_cons_zero, Act.put, List.setIfInBounds_toArray, List.set_cons_zero, List.set_cons_succ]
          refine planE_skip rfl (by rfl) ?_
          try simp only [List.getElem_toArray, List.getElem_cons_succ, List.getElem_cons_zero, Act.put, List.setIfInBounds_toArray, List.set_cons_zero, List.set_cons_succ]
          iterate 1 (refine planE_pure (v := ?_) rfl (by rfl) (fun w' => ?_) ?_; rotate_left; (focus (simp only [List.getElem_toArray, List.getElem_cons_succ, List.getElem_cons_zero]; go_simp; first | with_reducible rfl | (simp (disch := omega) only [if_pos, if_neg, dif_pos, Result.andThen_ok]; try with_reducible rfl) | skip)); try simp only [List.getElem_toArray, List.getElem_cons_succ, List.getElem_cons_zero, Act.put, List.setIfInBounds_toArray, List.set_cons_zero, List.set_cons_succ])
          refine planE_end ?_
          go_wp2_with fail
          go_ret
          exact ⟨rfl, hBF⟩
        have hw1 : IntKind.i64.wrap ((fD : Int) + (dat.length : Int)) = (fD : Int) + (dat.length : Int) := IntWalk.i64_in _ (by omega)
        have hdzz : decide ((1000 : Int) < (dat.length : Int)) = false := decide_eq_false (by omega)
        by_cases hrz : rm < (fD : Int) + (dat.length : Int)
        · have hrzz : decide (rm < (fD : Int) + (dat.length : Int)) = true := decide_eq_true hrz
          go_wp2_with fail
          refine wp_region_planE_gen (by kernel_rfl) [(0, none), (1, none), (2, none), (3, none), (4, none), (5, none), (6, none), (7, none), (8, none), (9, none), (10, none), (11, none), (12, none), (13, none), (14, none), (15, none), (16, none), (17, none), (20, none), (21, none), (23, none), (24, none), (25, none), (26, none), (18, some [16, 17]), (19, some [16]), (22, none), (27, none), (28, none), (29, none), (30, none), (31, none), (32, none), (33, none), (34, none)] (by kernel_rfl) (by kernel_rfl) (by decide) ?_
          intro wq hwq
          have hbq : Below w8.heap.size w8 wq := by rw [hwq]; exact (Below.refl _ _).drew
          clear hwq e4 e3 e2
          have e4 := (HBK8.out.kept hbq).cell 4 rfl
          have e3 := (HBK8.out.kept hbq).cell 3 rfl
          have e2 := (HBK8.out.kept hbq).cell 2 rfl
          rw [← HDN.out] at e4
          rw [← HFU.out] at e3
          rw [← HRM.out] at e2
          iterate 3 (refine planE_pure (v := ?_) rfl (by rfl) (fun w' => ?_) ?_; rotate_left; (focus (simp only [List.getElem_toArray, List.getElem_cons_succ, List.getElem_cons_zero]; go_simp; first | with_reducible rfl | (simp (disch := omega) only [if_pos, if_neg, dif_pos, Result.andThen_ok]; try with_reducible rfl) | skip)); try simp only [List.getElem_toArray, List.getElem_cons_succ, List.getElem_cons_zero, Act.put, List.setIfInBounds_toArray, List.set_cons_zero, List.set_cons_succ])
          refine planE_cells (v := ?_) [(⟨g, 4, none⟩, _)] (by simp; and_intros <;> assumption) rfl (by rfl) (fun w' hw' => ?_) ?_; rotate_left; (focus (simp only [List.forall_mem_cons, List.not_mem_nil, false_imp_iff, implies_true, and_true] at hw'; simp only [List.getElem_toArray, List.getElem_cons_succ, List.getElem_cons_zero]; go_simp; first | with_reducible rfl | (simp (disch := omega) only [if_pos, if_neg, dif_pos, Result.andThen_ok]; try with_reducible rfl) | skip)); try simp only [List.getElem_toArray, List.getElem_cons_succ, List.getElem_cons_zero, Act.put, List.setIfInBounds_toArray, List.set_cons_zero, List.set_cons_succ]
          iterate 4 (refine planE_pure (v := ?_) rfl (by rfl) (fun w' => ?_) ?_; rotate_left; (focus (simp only [List.getElem_toArray, List.getElem_cons_succ, List.getElem_cons_zero]; go_simp; first | with_reducible rfl | (simp (disch := omega) only [if_pos, if_neg, dif_pos, Result.andThen_ok]; try with_reducible rfl) | skip)); try simp only [List.getElem_toArray, List.getElem_cons_succ, List.getElem_cons_zero, Act.put, List.setIfInBounds_toArray, List.set_cons_zero, List.set_cons_succ])
          refine planE_cells (v := ?_) [(⟨g, 3, none⟩, .int .i64 fu)] (by simp; and_intros <;> assumption) rfl (by rfl) (fun w' hw' => ?_) ?_; rotate_left; (focus (simp only [List.forall_mem_cons, List.not_mem_nil, false_imp_iff, implies_true, and_true] at hw'; simp only [List.getElem_toArray, List.getElem_cons_succ, List.getElem_cons_zero]; go_simp; first | with_reducible rfl | (simp (disch := omega) only [if_pos, if_neg, dif_pos, Result.andThen_ok]; try with_reducible rfl) | skip)); try simp only [List.getElem_toArray, List.getElem_cons_succ, List.getElem_cons_zero, Act.put, List.setIfInBounds_toArray, List.set_cons_zero, List.set_cons_succ]
          iterate 14 (refine planE_pure (v := ?_) rfl (by rfl) (fun w' => ?_) ?_; rotate_left; (focus (simp only [List.getElem_toArray, List.getElem_cons_succ, List.getElem_cons_zero]; go_simp; first | with_reducible rfl | (simp (disch := omega) only [if_pos, if_neg, dif_pos, Result.andThen_ok]; try with_reducible rfl) | skip)); try simp only [List.getElem_toArray, List.getElem_cons_succ, List.getElem_cons_zero, Act.put, List.setIfInBounds_toArray, List.set_cons_zero, List.set_cons_succ])
          refine planE_cells (v := ?_) [(⟨g, 2, none⟩, .int .i64 rm)] (by simp; and_intros <;> assumption) rfl (by rfl) (fun w' hw' => ?_) ?_; rotate_left; (focus (simp only [List.forall_mem_cons, List.not_mem_nil, false_imp_iff, implies_true, and_true] at hw'; simp only [List.getElem_toArray, List.getElem_cons_succ, List.getElem_cons_zero]; go_simp; first | with_reducible rfl | (simp (disch := omega) only [if_pos, if_neg, dif_pos, Result.andThen_ok]; try with_reducible rfl) | skip)); try simp only [List.getElem_toArray, List.getElem_cons_succ, List.getElem_cons_zero, Act.put, List.setIfInBounds_toArray, List.set_cons_zero, List.set_cons_succ]
          refine planE_eff rfl (by rfl) (fun K hK => ?_)
          go_simp
          refine (FL.out _ hbq).mono ?_
          rintro e w9 ⟨A9, c9, L9, rfl, hv9, ho9, hb9⟩
          have hbq9 := hbq.trans (hb9.mono hbq.size)
          have SZ := Lib.hid (refSize A9 c9 L9 w9 ho9.rd (by have := congrArg List.length hv9.out; rw [List.length_map] at this; omega) (by rw [hv9.out, ← HFD.out]; omega))
          rw [hv9.out, ← HFD.out] at SZ
          clear e4 e3 e2 hb9 ho9
          have e4 := (HBK8.out.kept hbq9).cell 4 rfl
          have e3 := (HBK8.out.kept hbq9).cell 3 rfl
          have e2 := (HBK8.out.kept hbq9).cell 2 rfl
          rw [← HDN.out] at e4
          rw [← HFU.out] at e3
          rw [← HRM.out] at e2
          refine hK _ _ (by simp [owed, left] <;> (and_intros <;> first | trivial | assumption)) ?_
          clear hK K
          try simp only [List.getElem_toArray, List.getElem_cons_succ, List.getElem_cons_zero, Act.put, List.setIfInBounds_toArray, List.set_cons_zero, List.set_cons_succ]
          refine planE_eff rfl (by rfl) (fun K hK => ?_)
          go_simp
          refine SZ.out.mono ?_
          rintro e w10 ⟨rfl, hb10⟩
          have hbq10 := hbq9.trans (hb10.mono hbq9.size)
          clear e4 e3 e2 hb10 SZ
          have e4 := (HBK8.out.kept hbq10).cell 4 rfl
          have e3 := (HBK8.out.kept hbq10).cell 3 rfl
          have e2 := (HBK8.out.kept hbq10).cell 2 rfl
          rw [← HDN.out] at e4
          rw [← HFU.out] at e3
          rw [← HRM.out] at e2
          have hBF := hBw8.trans (hbq10.mono hBw8.size)
          refine hK _ _ (by simp [owed, left] <;> (and_intros <;> first | trivial | assumption)) ?_
          clear hK K
          try simp only [List.getElem_toArray, List.getElem_cons_succ, List.getElem_cons_zero, Act.put, List.setIfInBounds_toArray, List.set_cons_zero, List.set_cons_succ]
          iterate 4 (refine planE_pure (v := ?_) rfl (by rfl) (fun w' => ?_) ?_; rotate_left; (focus (simp only [List.getElem_toArray, List.getElem_cons_succ, List.getElem_cons_zero]; go_simp; first | with_reducible rfl | (simp (disch := omega) only [if_pos, if_neg, dif_pos, Result.andThen_ok]; try with_reducible rfl) | skip)); try simp only [List.getElem_toArray, List.getElem_cons_succ, List.getElem_cons_zero, Act.put, List.setIfInBounds_toArray, List.set_cons_zero, List.set_cons_succ])
          refine planE_skip rfl (by rfl) ?_
          try simp only [List.getElem_toArray, List.getElem_cons_succ, List.getElem_cons_zero, Act.put, List.setIfInBounds_toArray, List.set_cons_zero, List.set_cons_succ]
          refine planE_skip rfl (by rfl) ?_
          try simp only [List.getElem_toArray, List.getElem_cons_succ, List.getElem_cons_zero, Act.put, List.setIfInBounds_toArray, List.set_cons_zero, List.set_cons_succ]
          refine planE_skip rfl (by rfl) ?_
          try simp only [List.getElem_toArray, List.getElem_cons_succ, List.getElem_cons_zero, Act.put, List.setIfInBounds_toArray, List.set_cons_zero, List.set_cons_succ]
          refine planE_skip rfl (by rfl) ?_
          try simp only [List.getElem_toArray, List.getElem_cons_succ, List.getElem_cons_zero, Act.put, List.setIfInBounds_toArray, List.set_cons_zero, List.set_cons_succ]
          iterate 1 (refine planE_pure (v := ?_) rfl (by rfl) (fun w' => ?_) ?_; rotate_left; (focus (simp only [List.getElem_toArray, List.getElem_cons_succ, List.getElem_cons_zero]; go_simp; first | with_reducible rfl | (simp (disch := omega) only [if_pos, if_neg, dif_pos, Result.andThen_ok]; try with_reducible rfl) | skip)); try simp only [List.getElem_toArray, List.getElem_cons_succ, List.getElem_cons_zero, Act.put, List.setIfInBounds_toArray, List.set_cons_zero, List.set_cons_succ])
          refine planE_end ?_
          go_wp2_with fail
          go_ret
          exact ⟨rfl, hBF⟩
        have hrzz : decide (rm < (fD : Int) + (dat.length : Int)) = false := decide_eq_false hrz
        obtain ⟨fn, hfn⟩ : ∃ fn, fn = D.files.length := ⟨_, rfl⟩
        have HFN := Lib.hid hfn
        clear hfn
        by_cases hcz : 4000 < fn
        · have hczz : decide ((4000 : Int) < (fn : Int)) = true := decide_eq_true (by omega)
          go_wp2_with fail
          refine wp_region_planE_gen (by kernel_rfl) [(0, none), (1, none), (2, none), (3, none), (4, none), (5, none), (6, none), (7, none), (8, none), (9, none), (10, none), (11, none), (12, none), (13, none), (14, none), (15, none), (16, none), (17, none), (20, none), (21, none), (23, none), (24, none), (25, none), (26, none), (18, some [16, 17]), (19, some [16]), (22, none), (27, none), (28, none), (29, none), (30, none), (31, some [29, 30]), (32, none), (33, none), (34, none)] (by kernel_rfl) (by kernel_rfl) (by decide) ?_
          intro wq hwq
          have hbq : Below w8.heap.size w8 wq := by rw [hwq]; exact (Below.refl _ _).drew
          clear hwq e4 e3 e2
          have e4 := (HBK8.out.kept hbq).cell 4 rfl
          have e3 := (HBK8.out.kept hbq).cell 3 rfl
          have e2 := (HBK8.out.kept hbq).cell 2 rfl
          rw [← HDN.out] at e4
          rw [← HFU.out] at e3
          rw [← HRM.out] at e2
          iterate 3 (refine planE_pure (v := ?_) rfl (by rfl) (fun w' => ?_) ?_; rotate_left; (focus (simp only [List.getElem_toArray, List.getElem_cons_succ, List.getElem_cons_zero]; go_simp; first | with_reducible rfl | (simp (disch := omega) only [if_pos, if_neg, dif_pos, Result.andThen_ok]; try with_reducible rfl) | skip)); try simp only [List.getElem_toArray, List.getElem_cons_succ, List.getElem_cons_zero, Act.put, List.setIfInBounds_toArray, List.set_cons_zero, List.set_cons_succ])
          refine planE_cells (v := ?_) [(⟨g, 4, none⟩, _)] (by simp; and_intros <;> assumption) rfl (by rfl) (fun w' hw' => ?_) ?_; rotate_left; (focus (simp only [List.forall_mem_cons, List.not_mem_nil, false_imp_iff, implies_true, and_true] at hw'; simp only [List.getElem_toArray, List.getElem_cons_succ, List.getElem_cons_zero]; go_simp; first | with_reducible rfl | (simp (disch := omega) only [if_pos, if_neg, dif_pos, Result.andThen_ok]; try with_reducible rfl) | skip)); try simp only [List.getElem_toArray, List.getElem_cons_succ, List.getElem_cons_zero, Act.put, List.setIfInBounds_toArray, List.set_cons_zero, List.set_cons_succ]
          iterate 4 (refine planE_pure (v := ?_) rfl (by rfl) (fun w' => ?_) ?_; rotate_left; (focus (simp only [List.getElem_toArray, List.getElem_cons_succ, List.getElem_cons_zero]; go_simp; first | with_reducible rfl | (simp (disch := omega) only [if_pos, if_neg, dif_pos, Result.andThen_ok]; try with_reducible rfl) | skip)); try simp only [List.getElem_toArray, List.getElem_cons_succ, List.getElem_cons_zero, Act.put, List.setIfInBounds_toArray, List.set_cons_zero, List.set_cons_succ])
          refine planE_cells (v := ?_) [(⟨g, 3, none⟩, .int .i64 fu)] (by simp; and_intros <;> assumption) rfl (by rfl) (fun w' hw' => ?_) ?_; rotate_left; (focus (simp only [List.forall_mem_cons, List.not_mem_nil, false_imp_iff, implies_true, and_true] at hw'; simp only [List.getElem_toArray, List.getElem_cons_succ, List.getElem_cons_zero]; go_simp; first | with_reducible rfl | (simp (disch := omega) only [if_pos, if_neg, dif_pos, Result.andThen_ok]; try with_reducible rfl) | skip)); try simp only [List.getElem_toArray, List.getElem_cons_succ, List.getElem_cons_zero, Act.put, List.setIfInBounds_toArray, List.set_cons_zero, List.set_cons_succ]
          iterate 14 (refine planE_pure (v := ?_) rfl (by rfl) (fun w' => ?_) ?_; rotate_left; (focus (simp only [List.getElem_toArray, List.getElem_cons_succ, List.getElem_cons_zero]; go_simp; first | with_reducible rfl | (simp (disch := omega) only [if_pos, if_neg, dif_pos, Result.andThen_ok]; try with_reducible rfl) | skip)); try simp only [List.getElem_toArray, List.getElem_cons_succ, List.getElem_cons_zero, Act.put, List.setIfInBounds_toArray, List.set_cons_zero, List.set_cons_succ])
          refine planE_cells (v := ?_) [(⟨g, 2, none⟩, .int .i64 rm)] (by simp; and_intros <;> assumption) rfl (by rfl) (fun w' hw' => ?_) ?_; rotate_left; (focus (simp only [List.forall_mem_cons, List.not_mem_nil, false_imp_iff, implies_true, and_true] at hw'; simp only [List.getElem_toArray, List.getElem_cons_succ, List.getElem_cons_zero]; go_simp; first | with_reducible rfl | (simp (disch := omega) only [if_pos, if_neg, dif_pos, Result.andThen_ok]; try with_reducible rfl) | skip)); try simp only [List.getElem_toArray, List.getElem_cons_succ, List.getElem_cons_zero, Act.put, List.setIfInBounds_toArray, List.set_cons_zero, List.set_cons_succ]
          refine planE_eff rfl (by rfl) (fun K hK => ?_)
          go_simp
          refine (FL.out _ hbq).mono ?_
          rintro e w9 ⟨A9, c9, L9, rfl, hv9, ho9, hb9⟩
          have hbq9 := hbq.trans (hb9.mono hbq.size)
          have SZ := Lib.hid (refSize A9 c9 L9 w9 ho9.rd (by have := congrArg List.length hv9.out; rw [List.length_map] at this; omega) (by rw [hv9.out, ← HFD.out]; omega))
          rw [hv9.out, ← HFD.out] at SZ
          clear e4 e3 e2 hb9 ho9
          have e4 := (HBK8.out.kept hbq9).cell 4 rfl
          have e3 := (HBK8.out.kept hbq9).cell 3 rfl
          have e2 := (HBK8.out.kept hbq9).cell 2 rfl
          rw [← HDN.out] at e4
          rw [← HFU.out] at e3
          rw [← HRM.out] at e2
          refine hK _ _ (by simp [owed, left] <;> (and_intros <;> first | trivial | assumption)) ?_
          clear hK K
          try simp only [List.getElem_toArray, List.getElem_cons_succ, List.getElem_cons_zero, Act.put, List.setIfInBounds_toArray, List.set_cons_zero, List.set_cons_succ]
          refine planE_eff rfl (by rfl) (fun K hK => ?_)
          go_simp
          refine SZ.out.mono ?_
          rintro e w10 ⟨rfl, hb10⟩
          have hbq10 := hbq9.trans (hb10.mono hbq9.size)
          clear e4 e3 e2 hb10 SZ
          have e4 := (HBK8.out.kept hbq10).cell 4 rfl
          have e3 := (HBK8.out.kept hbq10).cell 3 rfl
          have e2 := (HBK8.out.kept hbq10).cell 2 rfl
          rw [← HDN.out] at e4
          rw [← HFU.out] at e3
          rw [← HRM.out] at e2
          refine hK _ _ (by simp [owed, left] <;> (and_intros <;> first | trivial | assumption)) ?_
          clear hK K
          try simp only [List.getElem_toArray, List.getElem_cons_succ, List.getElem_cons_zero, Act.put, List.setIfInBounds_toArray, List.set_cons_zero, List.set_cons_succ]
          iterate 5 (refine planE_pure (v := ?_) rfl (by rfl) (fun w' => ?_) ?_; rotate_left; (focus (simp only [List.getElem_toArray, List.getElem_cons_succ, List.getElem_cons_zero]; go_simp; first | with_reducible rfl | (simp (disch := omega) only [if_pos, if_neg, dif_pos, Result.andThen_ok]; try with_reducible rfl) | skip)); try simp only [List.getElem_toArray, List.getElem_cons_succ, List.getElem_cons_zero, Act.put, List.setIfInBounds_toArray, List.set_cons_zero, List.set_cons_succ])
          refine planE_eff rfl (by rfl) (fun K hK => ?_)
          go_simp
          refine (FL.out _ hbq10).mono ?_
          rintro e w11 ⟨A11, c11, L11, rfl, hv11, ho11, hb11⟩
          have hbq11 := hbq10.trans (hb11.mono hbq10.size)
          have hl11 : L11.length = fn := by have := congrArg List.length hv11.out; rw [List.length_map] at this; rw [this, HFN.out]
          rw [hl11]
          have hBF := hBw8.trans (hbq11.mono hBw8.size)
          clear e4 e3 e2 hb11 ho11 hv11 hl11
          have e4 := (HBK8.out.kept hbq11).cell 4 rfl
          have e3 := (HBK8.out.kept hbq11).cell 3 rfl
          have e2 := (HBK8.out.kept hbq11).cell 2 rfl
          rw [← HDN.out] at e4
          rw [← HFU.out] at e3
          rw [← HRM.out] at e2
          refine hK _ _ (by simp [owed, left] <;> (and_intros <;> first | trivial | assumption)) ?_
          clear hK K
          try simp only [List.getElem_toArray, List.getElem_cons_succ, List.getElem_cons_zero, Act.put, List.setIfInBounds_toArray, List.set_cons_zero, List.set_cons_succ]
          iterate 3 (refine planE_pure (v := ?_) rfl (by rfl) (fun w' => ?_) ?_; rotate_left; (focus (simp only [List.getElem_toArray, List.getElem_cons_succ, List.getElem_cons_zero]; go_simp; first | with_reducible rfl | (simp (disch := omega) only [if_pos, if_neg, dif_pos, Result.andThen_ok]; try with_reducible rfl) | skip)); try simp only [List.getElem_toArray, List.getElem_cons_succ, List.getElem_cons_zero, Act.put, List.setIfInBounds_toArray, List.set_cons_zero, List.set_cons_succ])
          refine planE_end ?_
          go_wp2_with fail
          go_ret
          exact ⟨rfl, hBF⟩
        have hczz : decide ((4000 : Int) < (fn : Int)) = false := decide_eq_false (by omega)
        go_wp2_with fail
        refine wp_region_planE_gen (by kernel_rfl) [(0, none), (1, none), (2, none), (3, none), (4, none), (5, none), (6, none), (7, none), (8, none), (9, none), (10, none), (11, none), (12, none), (13, none), (14, none), (15, none), (16, none), (17, none), (20, none), (21, none), (23, none), (24, none), (25, none), (26, none), (18, some [16, 17]), (19, some [16]), (22, none), (27, none), (28, none), (29, none), (30, none), (31, some [29, 30]), (32, none), (33, none), (34, none)] (by kernel_rfl) (by kernel_rfl) (by decide) ?_
        intro wq hwq
        have hbq : Below w8.heap.size w8 wq := by rw [hwq]; exact (Below.refl _ _).drew
        clear hwq e4 e3 e2
        have e4 := (HBK8.out.kept hbq).cell 4 rfl
        have e3 := (HBK8.out.kept hbq).cell 3 rfl
        have e2 := (HBK8.out.kept hbq).cell 2 rfl
        rw [← HDN.out] at e4
        rw [← HFU.out] at e3
        rw [← HRM.out] at e2
        iterate 3 (refine planE_pure (v := ?_) rfl (by rfl) (fun w' => ?_) ?_; rotate_left; (focus (simp only [List.getElem_toArray, List.getElem_cons_succ, List.getElem_cons_zero]; go_simp; first | with_reducible rfl | (simp (disch := omega) only [if_pos, if_neg, dif_pos, Result.andThen_ok]; try with_reducible rfl) | skip)); try simp only [List.getElem_toArray, List.getElem_cons_succ, List.getElem_cons_zero, Act.put, List.setIfInBounds_toArray, List.set_cons_zero, List.set_cons_succ])
        refine planE_cells (v := ?_) [(⟨g, 4, none⟩, _)] (by simp; and_intros <;> assumption) rfl (by rfl) (fun w' hw' => ?_) ?_; rotate_left; (focus (simp only [List.forall_mem_cons, List.not_mem_nil, false_imp_iff, implies_true, and_true] at hw'; simp only [List.getElem_toArray, List.getElem_cons_succ, List.getElem_cons_zero]; go_simp; first | with_reducible rfl | (simp (disch := omega) only [if_pos, if_neg, dif_pos, Result.andThen_ok]; try with_reducible rfl) | skip)); try simp only [List.getElem_toArray, List.getElem_cons_succ, List.getElem_cons_zero, Act.put, List.setIfInBounds_toArray, List.set_cons_zero, List.set_cons_succ]
        iterate 4 (refine planE_pure (v := ?_) rfl (by rfl) (fun w' => ?_) ?_; rotate_left; (focus (simp only [List.getElem_toArray, List.getElem_cons_succ, List.getElem_cons_zero]; go_simp; first | with_reducible rfl | (simp (disch := omega) only [if_pos, if_neg, dif_pos, Result.andThen_ok]; try with_reducible rfl) | skip)); try simp only [List.getElem_toArray, List.getElem_cons_succ, List.getElem_cons_zero, Act.put, List.setIfInBounds_toArray, List.set_cons_zero, List.set_cons_succ])
        refine planE_cells (v := ?_) [(⟨g, 3, none⟩, .int .i64 fu)] (by simp; and_intros <;> assumption) rfl (by rfl) (fun w' hw' => ?_) ?_; rotate_left; (focus (simp only [List.forall_mem_cons, List.not_mem_nil, false_imp_iff, implies_true, and_true] at hw'; simp only [List.getElem_toArray, List.getElem_cons_succ, List.getElem_cons_zero]; go_simp; first | with_reducible rfl | (simp (disch := omega) only [if_pos, if_neg, dif_pos, Result.andThen_ok]; try with_reducible rfl) | skip)); try simp only [List.getElem_toArray, List.getElem_cons_succ, List.getElem_cons_zero, Act.put, List.setIfInBounds_toArray, List.set_cons_zero, List.set_cons_succ]
        iterate 14 (refine planE_pure (v := ?_) rfl (by rfl) (fun w' => ?_) ?_; rotate_left; (focus (simp only [List.getElem_toArray, List.getElem_cons_succ, List.getElem_cons_zero]; go_simp; first | with_reducible rfl | (simp (disch := omega) only [if_pos, if_neg, dif_pos, Result.andThen_ok]; try with_reducible rfl) | skip)); try simp only [List.getElem_toArray, List.getElem_cons_succ, List.getElem_cons_zero, Act.put, List.setIfInBounds_toArray, List.set_cons_zero, List.set_cons_succ])
        refine planE_cells (v := ?_) [(⟨g, 2, none⟩, .int .i64 rm)] (by simp; and_intros <;> assumption) rfl (by rfl) (fun w' hw' => ?_) ?_; rotate_left; (focus (simp only [List.forall_mem_cons, List.not_mem_nil, false_imp_iff, implies_true, and_true] at hw'; simp only [List.getElem_toArray, List.getElem_cons_succ, List.getElem_cons_zero]; go_simp; first | with_reducible rfl | (simp (disch := omega) only [if_pos, if_neg, dif_pos, Result.andThen_ok]; try with_reducible rfl) | skip)); try simp only [List.getElem_toArray, List.getElem_cons_succ, List.getElem_cons_zero, Act.put, List.setIfInBounds_toArray, List.set_cons_zero, List.set_cons_succ]
        refine planE_eff rfl (by rfl) (fun K hK => ?_)
        go_simp
        refine (FL.out _ hbq).mono ?_
        rintro e w9 ⟨A9, c9, L9, rfl, hv9, ho9, hb9⟩
        have hbq9 := hbq.trans (hb9.mono hbq.size)
        have SZ := Lib.hid (refSize A9 c9 L9 w9 ho9.rd (by have := congrArg List.length hv9.out; rw [List.length_map] at this; omega) (by rw [hv9.out, ← HFD.out]; omega))
        rw [hv9.out, ← HFD.out] at SZ
        clear e4 e3 e2 hb9 ho9
        have e4 := (HBK8.out.kept hbq9).cell 4 rfl
        have e3 := (HBK8.out.kept hbq9).cell 3 rfl
        have e2 := (HBK8.out.kept hbq9).cell 2 rfl
        rw [← HDN.out] at e4
        rw [← HFU.out] at e3
        rw [← HRM.out] at e2
        refine hK _ _ (by simp [owed, left] <;> (and_intros <;> first | trivial | assumption)) ?_
        clear hK K
        try simp only [List.getElem_toArray, List.getElem_cons_succ, List.getElem_cons_zero, Act.put, List.setIfInBounds_toArray, List.set_cons_zero, List.set_cons_succ]
        refine planE_eff rfl (by rfl) (fun K hK => ?_)
        go_simp
        refine SZ.out.mono ?_
        rintro e w10 ⟨rfl, hb10⟩
        have hbq10 := hbq9.trans (hb10.mono hbq9.size)
        clear e4 e3 e2 hb10 SZ
        have e4 := (HBK8.out.kept hbq10).cell 4 rfl
        have e3 := (HBK8.out.kept hbq10).cell 3 rfl
        have e2 := (HBK8.out.kept hbq10).cell 2 rfl
        rw [← HDN.out] at e4
        rw [← HFU.out] at e3
        rw [← HRM.out] at e2
        refine hK _ _ (by simp [owed, left] <;> (and_intros <;> first | trivial | assumption)) ?_
        clear hK K
        try simp only [List.getElem_toArray, List.getElem_cons_succ, List.getElem_cons_zero, Act.put, List.setIfInBounds_toArray, List.set_cons_zero, List.set_cons_succ]
        iterate 5 (refine planE_pure (v := ?_) rfl (by rfl) (fun w' => ?_) ?_; rotate_left; (focus (simp only [List.getElem_toArray, List.getElem_cons_succ, List.getElem_cons_zero]; go_simp; first | with_reducible rfl | (simp (disch := omega) only [if_pos, if_neg, dif_pos, Result.andThen_ok]; try with_reducible rfl) | skip)); try simp only [List.getElem_toArray, List.getElem_cons_succ, List.getElem_cons_zero, Act.put, List.setIfInBounds_toArray, List.set_cons_zero, List.set_cons_succ])
        refine planE_eff rfl (by rfl) (fun K hK => ?_)
        go_simp
        refine (FL.out _ hbq10).mono ?_
        rintro e w11 ⟨A11, c11, L11, rfl, hv11, ho11, hb11⟩
        have hbq11 := hbq10.trans (hb11.mono hbq10.size)
        have hl11 : L11.length = fn := by have := congrArg List.length hv11.out; rw [List.length_map] at this; rw [this, HFN.out]
        rw [hl11]
        have hBF := hBw8.trans (hbq11.mono hBw8.size)
        clear e4 e3 e2 hb11 ho11 hv11 hl11
        have e4 := (HBK8.out.kept hbq11).cell 4 rfl
        have e3 := (HBK8.out.kept hbq11).cell 3 rfl
        have e2 := (HBK8.out.kept hbq11).cell 2 rfl
        rw [← HDN.out] at e4
        rw [← HFU.out] at e3
        rw [← HRM.out] at e2
        refine hK _ _ (by simp [owed, left] <;> (and_intros <;> first | trivial | assumption)) ?_
        clear hK K
        try simp only [List.getElem_toArray, List.getElem_cons_succ, List.getElem_cons_zero, Act.put, List.setIfInBounds_toArray, List.set_cons_zero, List.set_cons_succ]
        iterate 3 (refine planE_pure (v := ?_) rfl (by rfl) (fun w' => ?_) ?_; rotate_left; (focus (simp only [List.getElem_toArray, List.getElem_cons_succ, List.getElem_cons_zero]; go_simp; first | with_reducible rfl | (simp (disch := omega) only [if_pos, if_neg, dif_pos, Result.andThen_ok]; try with_reducible rfl) | skip)); try simp only [List.getElem_toArray, List.getElem_cons_succ, List.getElem_cons_zero, Act.put, List.setIfInBounds_toArray, List.set_cons_zero, List.set_cons_succ])
        refine planE_end ?_
        obtain ⟨wz, hwz⟩ : ∃ wz, wz = w11 := ⟨_, rfl⟩
        rw [← hwz] at hbq11 hBF ⊢
        clear hwz
        have HDIz := Lib.hid (HDI.out.below hbq11)
        have HDAz := Lib.hid (HDA8.out.below hbq11)
        have HTz : Hid (∀ b, T b → News w wz b) := Lib.hid fun b hb => ⟨(HT8.out b hb).1, by have := (HT8.out b hb).2; have := hbq11.size; omega⟩
        have hbFs := hBF.size
        have HPUT := Lib.hid (put_free (n := [122, 122, 46, 122, 122]) (data := dat) HDN.out.symm (by rw [← HFU.out]; omega) (by decide) (by rw [← HFN.out]; omega) HRIS.out (by rw [← HFD.out, ← HRM.out]; omega))
        have HRDP := Lib.hid (read_put (D := D) [122, 122, 46, 122, 122] dat HDN.out.symm (by decide))
        have HGP := Lib.hid (HG.out.change ⟨1, [122, 122, 46, 122, 122], (0 : Int).toNat, dat⟩ 0)
        rw [HPUT.out] at HGP
        have HPG := Lib.hid (fun j hj => putD0_get ((fget D.files [122, 122, 46, 122, 122]).getD []) dat j hj)
        have HPL : Hid (dat.length ≤ (putD ((fget D.files [122, 122, 46, 122, 122]).getD []) 0 dat).length) := Lib.hid (by rw [putD_len]; omega)
        clear e2 e3 e4 hbq11 HDI HDA8 HT8 hfz hrz hrzz hczz hcz hw1 FL HN HP HRIS HFU HFD HFN hbq hbq9 hbq10 HRM HOK
        go_wp2_with (at_builtin; refine wp_appendB _ rfl (.tmp 110) (.tmp 111) rfl wz.heap.size _ _ _ _ [] dat rfl rfl (OB.made0 _ (Nat.le_refl _)) (HDAz.out.alloc _) (by simp; omega) (by simp) ?_; intro k9 A9 c9 w12 hk9 hk91 hk92 ho9 hg9)
        obtain rfl : k9 = dat := by simpa using hk9.out
        have hb12 : Below wz.heap.size wz w12 := ((Below.refl _ _).alloc (Nat.le_refl _) _).grown hg9 (by simp) (by simp [Value.ownBlock])
        have PT := Lib.hid (diskPutC [122, 122, 46, 122, 122] 0 k9 A9 c9 (HDIz.out.below hb12) ho9.rb (fun _ b hb hT => by have := (ho9.blk_lt b hb).1; have := (HTz.out b hT).2; omega) hcnt (by decide) (by decide) (by omega))
        rw [HPUT.out] at PT
        have HO12 := Lib.hid ho9
        have HD12 := Lib.hid (HDIz.out.below hb12)
        have hB12 := hBF.trans (hb12.mono hbFs)
        have hs12 := hb12.size
        clear hk9 hk91 hk92 hg9 ho9 hb12 HDIz
        refine PT.out.mono ?_
        rintro e w13 ⟨rfl, hd13, hm13⟩
        obtain ⟨F, hF⟩ : ∃ F, F = ({ D with unsure := D.unsure ++ [⟨1, [122, 122, 46, 122, 122], 0, k9⟩] } : DSt) := ⟨_, rfl⟩
        have hB13 : Below w.heap.size w w13 := Mods.old hB12 hm13 (by omega) fun i _ hi => (HTz.out i hi).1
        have HO13 := Lib.hid (HO12.out.mods hm13 fun b hb hT => by have := (HO12.out.blk_lt b hb).1; have := (HTz.out b hT).2; omega)
        have HAB := Lib.hid (fun b (hb : A9.map (·.block) = some b) => HO12.out.blk_lt b hb)
        have HDF : Hid (DI (Sx T w12 w13) w13 d F) := Lib.hid (by rw [hF]; exact hd13)
        have HRF : Hid (readE F [122, 122, 46, 122, 122] = 0 ∧ readB F [122, 122, 46, 122, 122] = putD ((fget D.files [122, 122, 46, 122, 122]).getD []) 0 k9) := Lib.hid (by rw [hF]; exact HRDP.out)
        have HTF : Hid (∀ b, Sx T w12 w13 b → w.heap.size ≤ b ∧ (b < wz.heap.size ∨ w12.heap.size ≤ b)) := Lib.hid fun b hb => by
          rcases hb with hb | hb
          · exact ⟨(HTz.out b hb).1, .inl (HTz.out b hb).2⟩
          · exact ⟨by have := hb.1; omega, .inr hb.1⟩
        have HDN2 := Lib.hid HDAz.out
        have hs13 := hm13.size
        generalize (putD ((fget D.files [122, 122, 46, 122, 122]).getD []) 0 k9) = pb at *
        have HDA13 := Lib.hid (HDA.out.below hB13)
        clear HPUT HRDP PT hd13 hm13 HO12 HD12 HTz HDAz HDN2 hF HGP HDN hBF hB12
        go_wp2_with fail
        go_loopw [15] (fun i wr => ∃ (j : Nat) (l : List UInt8), j ≤ k9.length ∧ i = .int .i64 (j : Int) ∧ Hid (l.length = k9.length) ∧ OB wr wz.heap.size A9 c9 l ∧ w13.grownBy wr (A9.map (·.block))) (fun i _ => k9.length - (intOf i).toNat)
        case atStart => exact ⟨0, k9, Nat.zero_le _, rfl, Lib.hid rfl, HO13.out, World.grownBy.refl _ _⟩
        case round =>
          obtain ⟨j, l, hj, rfl, hl, ho, hg⟩ := hrel
          by_cases hlt : j < k9.length
          · obtain ⟨gi, e', _, _, hcell, hfree, hset⟩ := ho.store (show j < l.length by rw [hl.out]; exact hlt)
            subst e'
            obtain ⟨ho2, hg2⟩ := hset 99 99 (by decide)
            have HO := Lib.hid ho2
            have HG := Lib.hid (gb_trans hg hg2)
            clear hset ho2 hg2 ho hg hB13
            go_wp2_with fail
            go_roundw
            case rel => exact ⟨j + 1, _, by omega, by go_num, Lib.hid (by rw [List.length_set, hl.out]), HO.out, HG.out⟩
            case measure => simp [intOf]; omega
          · have HDz : Hid (DI (Sx T w12 w13) wr d F) := Lib.hid (HDF.out.mods (R := fun b => A9.map (·.block) = some b) (Mods.of_grown hg fun k hk => hk) fun b hb hS hk => by
              have := HAB.out b hk
              have := HTF.out b hS
              omega)
            have hBz : Below w.heap.size w wr := hB13.grown hg (by omega) (fun b hb => by have := HAB.out b hb; omega)
            have RD := Lib.hid (diskReadC [122, 122, 46, 122, 122] HDz.out (by decide))
            unfold ReadEnd at RD
            rw [HRF.out.1, HRF.out.2] at RD
            have hsz := hg.size
            clear ho hg hl hB13 HO13 HDF HAB
            obtain ⟨wb, hwb⟩ : ∃ wb, wb = wr := ⟨_, rfl⟩
            rw [← hwb] at RD HDz hBz hsz ⊢
            clear hwb
            go_wp2_with fail
            refine RD.out.mono ?_
            rintro e w14 ⟨A14, c14, rfl, ho14, hb14⟩
            have HO14 := Lib.hid ho14
            have hB14 := hBz.trans (hb14.mono (by omega))
            have HD14 := Lib.hid (HDz.out.below hb14)
            have HDB : Hid (∀ b, Sx T w12 w13 b → b < wb.heap.size) := Lib.hid fun b hb => HDz.out.bnd b hb
            have hs14 := hb14.size
            clear RD ho14 hBz hb14 HDz
            go_upto_block 4 with fail
            go_cut [18] (fun s18 wx => w14.grownBy wx (A14.map (·.block)))
            case first =>
             go_wp2_with fail
             go_loopw [18] (fun i wx => ∃ (m : Nat) (l : List UInt8), m ≤ pb.length ∧ i = .int .i64 (m : Int) ∧ Hid (l.length = pb.length) ∧ Hid (∀ q, m ≤ q → l[q]? = pb[q]?) ∧ OB wx wb.heap.size A14 c14 l ∧ w14.grownBy wx (A14.map (·.block))) (fun i _ => pb.length - (intOf i).toNat)
             case atStart => exact ⟨0, pb, Nat.zero_le _, rfl, Lib.hid rfl, Lib.hid fun _ _ => rfl, HO14.out, World.grownBy.refl _ _⟩
             case round =>
               obtain ⟨m, l, hm, rfl, hl, hq, ho, hg⟩ := hrel
               have hBx : Below w.heap.size w wr := hB14.grown hg (by omega) (fun b hb => by have := (HO14.out.blk_lt b hb).1; omega)
               by_cases hlt2 : m < pb.length
               · by_cases hlt3 : m < k9.length
                 · have hml : m < l.length := by rw [hl.out]; exact hlt2
                   obtain ⟨gi, e', _, hgl, hcell, _, _⟩ := ho.store hml
                   subst e'
                   obtain ⟨bd, od, hDAe, hbd, hdc⟩ := (HDA.out.below hBx).cell hlt3
                   have hval : l[m] = k9[m] := by
                     have h1 := hq.out m (Nat.le_refl _)
                     have h2 := HPG.out m hlt3
                     rw [h2, List.getElem?_eq_getElem hml, List.getElem?_eq_getElem hlt3] at h1
                     exact Option.some.inj h1
                   rw [hval] at hcell
                   have HQ : Hid (∀ q, m + 1 ≤ q → (l.set m 98)[q]? = pb[q]?) := Lib.hid fun q hq' => by rw [List.getElem?_set_ne (by omega)]; exact hq.out q (by omega)
                   generalize (k9[m].toNat : Int) = kv at *
                   subst hDAe
                   have HOo := Lib.hid ho
                   have HGo := Lib.hid hg
                   have HML := Lib.hid hml
                   clear ho hg hB14 hval hml hq hBx
                   go_wp2_with fail
                   refine wp_region_planE_gen (by kernel_rfl) [(0, none), (1, none), (2, none), (3, none), (4, none), (5, none), (6, none), (7, none), (8, none)] (by kernel_rfl) (by kernel_rfl) (by decide) ?_
                   intro wq hwq
                   have hbq : Below wr.heap.size wr wq := by rw [hwq]; exact (Below.refl _ _).drew
                   have q1 := (hbq.cell (p := ⟨gi, m, none⟩) hgl).trans hcell
                   have q2 := (hbq.cell (p := ⟨bd, od + m, none⟩) hbd).trans hdc
                   clear hwq
                   iterate 3 (refine planE_pure (v := ?_) rfl (by rfl) (fun w' => ?_) ?_; rotate_left; (focus (simp only [List.getElem_toArray, List.getElem_cons_succ, List.getElem_cons_zero]; go_simp; first | with_reducible rfl | (simp (disch := omega) only [if_pos, if_neg, dif_pos, Result.andThen_ok]; try with_reducible rfl) | skip)); try simp only [List.getElem_toArray, List.getElem_cons_succ, List.getElem_cons_zero, Act.put, List.setIfInBounds_toArray, List.set_cons_zero, List.set_cons_succ])
                   refine planE_cells (v := ?_) [(⟨gi, m, none⟩, .int .u8 kv)] (by simp; and_intros <;> assumption) rfl (by rfl) (fun w' hw' => ?_) ?_; rotate_left; (focus (simp only [List.forall_mem_cons, List.not_mem_nil, false_imp_iff, implies_true, and_true] at hw'; simp only [List.getElem_toArray, List.getElem_cons_succ, List.getElem_cons_zero]; go_simp; first | with_reducible rfl | (simp (disch := omega) only [if_pos, if_neg, dif_pos, Result.andThen_ok]; try with_reducible rfl) | skip)); try simp only [List.getElem_toArray, List.getElem_cons_succ, List.getElem_cons_zero, Act.put, List.setIfInBounds_toArray, List.set_cons_zero, List.set_cons_succ]
                   iterate 3 (refine planE_pure (v := ?_) rfl (by rfl) (fun w' => ?_) ?_; rotate_left; (focus (simp only [List.getElem_toArray, List.getElem_cons_succ, List.getElem_cons_zero]; go_simp; first | with_reducible rfl | (simp (disch := omega) only [if_pos, if_neg, dif_pos, Result.andThen_ok]; try with_reducible rfl) | skip)); try simp only [List.getElem_toArray, List.getElem_cons_succ, List.getElem_cons_zero, Act.put, List.setIfInBounds_toArray, List.set_cons_zero, List.set_cons_succ])
                   refine planE_cells (v := ?_) [(⟨bd, od + m, none⟩, .int .u8 kv)] (by simp; and_intros <;> assumption) rfl (by rfl) (fun w' hw' => ?_) ?_; rotate_left; (focus (simp only [List.forall_mem_cons, List.not_mem_nil, false_imp_iff, implies_true, and_true] at hw'; simp only [List.getElem_toArray, List.getElem_cons_succ, List.getElem_cons_zero]; go_simp; first | with_reducible rfl | (simp (disch := omega) only [if_pos, if_neg, dif_pos, Result.andThen_ok]; try with_reducible rfl) | skip)); try simp only [List.getElem_toArray, List.getElem_cons_succ, List.getElem_cons_zero, Act.put, List.setIfInBounds_toArray, List.set_cons_zero, List.set_cons_succ]
                   iterate 1 (refine planE_pure (v := ?_) rfl (by rfl) (fun w' => ?_) ?_; rotate_left; (focus (simp only [List.getElem_toArray, List.getElem_cons_succ, List.getElem_cons_zero]; go_simp; first | with_reducible rfl | (simp (disch := omega) only [if_pos, if_neg, dif_pos, Result.andThen_ok]; try with_reducible rfl) | skip)); try simp only [List.getElem_toArray, List.getElem_cons_succ, List.getElem_cons_zero, Act.put, List.setIfInBounds_toArray, List.set_cons_zero, List.set_cons_succ])
                   refine planE_end ?_
                   obtain ⟨gj, e', _, _, hcell2, hfree, hset⟩ := (HOo.out.below hbq).store HML.out
                   obtain rfl : gi = gj := by injection e' with e'; injection e'
                   obtain ⟨ho2, hg2⟩ := hset 98 98 (by decide)
                   have HO := Lib.hid ho2
                   have HG := Lib.hid (gb_trans (gb_trans HGo.out (gb_below hbq)) hg2)
                   clear q1 q2 hbq hset ho2 hg2 hcell
                   go_wp2_with fail
                   go_roundw
                   case rel => exact ⟨m + 1, _, by omega, by go_num, Lib.hid (by rw [List.length_set, hl.out]), HQ, HO.out, HG.out⟩
                   case measure => simp [intOf]; omega
                 · have hlt4 : ¬ (m : Int) < (k9.length : Int) := by omega
                   go_wp2_with fail
                   go_meet
                   exact hg
               · go_wp2_with fail
                 go_meet
                 exact hg
            case rest =>
              have hBx : Below w.heap.size w wc := hB14.grown hcut (by omega) (fun b hb => by have := (HO14.out.blk_lt b hb).1; omega)
              have HDy : Hid (DI (Sx T w12 w13) wc d F) := Lib.hid (HD14.out.mods (R := fun b => A14.map (·.block) = some b) (Mods.of_grown hcut fun k hk => hk) fun b hb hS hk => by
                have := (HO14.out.blk_lt b hk).1
                have := HDB.out b hS
                omega)
              have RD := Lib.hid (diskReadC [122, 122, 46, 122, 122] HDy.out (by decide))
              unfold ReadEnd at RD
              rw [HRF.out.1, HRF.out.2] at RD
              have hsx := hcut.size
              clear hcut hB14 HO14 HD14 HDB
              obtain ⟨wy, hwy⟩ : ∃ wy, wy = wc := ⟨_, rfl⟩
              rw [← hwy] at RD HDy hBx hsx ⊢
              clear hwy
              go_wp2_with fail
              refine RD.out.mono ?_
              rintro e w15 ⟨A15, c15, rfl, ho15, hb15⟩
              have hB15 := hBx.trans (hb15.mono (by omega))
              have hpl : k9.length ≤ pb.length := HPL.out
              by_cases h0 : 0 < k9.length
              · have hp0 : 0 < pb.length := by omega
                obtain ⟨b15, o15, hA15, hb15l, h15c⟩ := ho15.rb.cell hp0
                obtain ⟨bd, od, hDAe, hbd, hdc⟩ := (HDA.out.below hB15).cell h0
                have hval : pb[0] = k9[0] := by
                  have h2 := HPG.out 0 h0
                  rw [List.getElem?_eq_getElem hp0, List.getElem?_eq_getElem h0] at h2
                  exact Option.some.inj h2
                rw [hval] at h15c
                generalize (k9[0].toNat : Int) = kv at *
                subst hA15 hDAe
                clear RD ho15 hb15 HDy hval
                have hz0 : ((k9.length : Int) == 0) = false := by rw [beq_eq_false_iff_ne]; omega
                have hge : decide ((k9.length : Int) ≤ (pb.length : Int)) = true := decide_eq_true (by omega)
                go_wp2_with fail
                refine wp_region_planE_gen (by kernel_rfl) [(0, none), (1, none), (2, none), (3, none), (4, none), (5, none), (6, none), (7, none), (8, none), (9, none), (10, none), (11, none), (12, none), (13, none), (14, none), (15, none), (16, none), (17, none), (18, none), (19, none), (20, none), (21, none), (22, none), (23, none), (24, none), (25, none), (26, none), (27, none), (28, none), (29, none), (30, none), (31, none), (32, none), (33, none), (34, none)] (by kernel_rfl) (by kernel_rfl) (by decide) ?_
                intro wq hwq
                have hbq : Below w15.heap.size w15 wq := by rw [hwq]; exact (Below.refl _ _).drew
                have q1 := (hbq.cell (p := ⟨b15, o15 + 0, none⟩) hb15l).trans h15c
                have q2 := (hbq.cell (p := ⟨bd, od + 0, none⟩) hbd).trans hdc
                have hBq := hB15.trans (hbq.mono hB15.size)
                simp only [Nat.add_zero] at q1 q2
                clear hwq
                iterate 27 (refine planE_pure (v := ?_) rfl (by rfl) (fun w' => ?_) ?_; rotate_left; (focus (simp only [List.getElem_toArray, List.getElem_cons_succ, List.getElem_cons_zero]; go_simp; first | with_reducible rfl | (simp (disch := omega) only [if_pos, if_neg, dif_pos, Result.andThen_ok]; try with_reducible rfl) | skip)); try simp only [List.getElem_toArray, List.getElem_cons_succ, List.getElem_cons_zero, Act.put, List.setIfInBounds_toArray, List.set_cons_zero, List.set_cons_succ])
                refine planE_cells (v := ?_) [(⟨b15, o15, none⟩, .int .u8 kv)] (by simp; and_intros <;> assumption) rfl (by rfl) (fun w' hw' => ?_) ?_; rotate_left; (focus (simp only [List.forall_mem_cons, List.not_mem_nil, false_imp_iff, implies_true, and_true] at hw'; simp only [List.getElem_toArray, List.getElem_cons_succ, List.getElem_cons_zero]; go_simp; first | with_reducible rfl | (simp (disch := omega) only [if_pos, if_neg, dif_pos, Result.andThen_ok]; try with_reducible rfl) | skip)); try simp only [List.getElem_toArray, List.getElem_cons_succ, List.getElem_cons_zero, Act.put, List.setIfInBounds_toArray, List.set_cons_zero, List.set_cons_succ]
                iterate 2 (refine planE_pure (v := ?_) rfl (by rfl) (fun w' => ?_) ?_; rotate_left; (focus (simp only [List.getElem_toArray, List.getElem_cons_succ, List.getElem_cons_zero]; go_simp; first | with_reducible rfl | (simp (disch := omega) only [if_pos, if_neg, dif_pos, Result.andThen_ok]; try with_reducible rfl) | skip)); try simp only [List.getElem_toArray, List.getElem_cons_succ, List.getElem_cons_zero, Act.put, List.setIfInBounds_toArray, List.set_cons_zero, List.set_cons_succ])
                refine planE_cells (v := ?_) [(⟨bd, od, none⟩, .int .u8 kv)] (by simp; and_intros <;> assumption) rfl (by rfl) (fun w' hw' => ?_) ?_; rotate_left; (focus (simp only [List.forall_mem_cons, List.not_mem_nil, false_imp_iff, implies_true, and_true] at hw'; simp only [List.getElem_toArray, List.getElem_cons_succ, List.getElem_cons_zero]; go_simp; first | with_reducible rfl | (simp (disch := omega) only [if_pos, if_neg, dif_pos, Result.andThen_ok]; try with_reducible rfl) | skip)); try simp only [List.getElem_toArray, List.getElem_cons_succ, List.getElem_cons_zero, Act.put, List.setIfInBounds_toArray, List.set_cons_zero, List.set_cons_succ]
                iterate 4 (refine planE_pure (v := ?_) rfl (by rfl) (fun w' => ?_) ?_; rotate_left; (focus (simp only [List.getElem_toArray, List.getElem_cons_succ, List.getElem_cons_zero]; go_simp; first | with_reducible rfl | (simp (disch := omega) only [if_pos, if_neg, dif_pos, Result.andThen_ok]; try with_reducible rfl) | skip)); try simp only [List.getElem_toArray, List.getElem_cons_succ, List.getElem_cons_zero, Act.put, List.setIfInBounds_toArray, List.set_cons_zero, List.set_cons_succ])
                refine planE_end ?_
                go_wp2_with fail
                go_ret
                exact ⟨rfl, hBq⟩
              · have hz0 : ((k9.length : Int) == 0) = true := by rw [beq_iff_eq]; omega
                have hge : decide ((k9.length : Int) ≤ (pb.length : Int)) = true := decide_eq_true (by omega)
                clear RD ho15 hb15 HDy
                go_wp2_with fail
                refine wp_region_planE_gen (by kernel_rfl) [(0, none), (1, none), (2, none), (3, none), (4, none), (5, none), (6, none), (7, none), (8, none), (9, none), (10, none), (11, none), (12, none), (13, none), (14, none), (15, none), (16, none), (17, none), (18, none), (19, none), (20, none), (21, none), (22, none), (23, none), (24, none), (25, none), (26, none), (27, none), (28, none), (29, none), (30, none), (31, none), (32, none), (33, none), (34, none)] (by kernel_rfl) (by kernel_rfl) (by decide) ?_
                intro wq hwq
                have hbq : Below w15.heap.size w15 wq := by rw [hwq]; exact (Below.refl _ _).drew
                have hBq := hB15.trans (hbq.mono hB15.size)
                clear hwq
                iterate 25 (refine planE_pure (v := ?_) rfl (by rfl) (fun w' => ?_) ?_; rotate_left; (focus (simp only [List.getElem_toArray, List.getElem_cons_succ, List.getElem_cons_zero]; go_simp; first | with_reducible rfl | (simp (disch := omega) only [if_pos, if_neg, dif_pos, Result.andThen_ok]; try with_reducible rfl) | skip)); try simp only [List.getElem_toArray, List.getElem_cons_succ, List.getElem_cons_zero, Act.put, List.setIfInBounds_toArray, List.set_cons_zero, List.set_cons_succ])
                refine planE_skip rfl (by rfl) ?_
                try simp only [List.getElem_toArray, List.getElem_cons_succ, List.getElem_cons_zero, Act.put, List.setIfInBounds_toArray, List.set_cons_zero, List.set_cons_succ]
                refine planE_skip rfl (by rfl) ?_
                try simp only [List.getElem_toArray, List.getElem_cons_succ, List.getElem_cons_zero, Act.put, List.setIfInBounds_toArray, List.set_cons_zero, List.set_cons_succ]
                refine planE_skip rfl (by rfl) ?_
                try simp only [List.getElem_toArray, List.getElem_cons_succ, List.getElem_cons_zero, Act.put, List.setIfInBounds_toArray, List.set_cons_zero, List.set_cons_succ]
                refine planE_skip rfl (by rfl) ?_
                try simp only [List.getElem_toArray, List.getElem_cons_succ, List.getElem_cons_zero, Act.put, List.setIfInBounds_toArray, List.set_cons_zero, List.set_cons_succ]
                refine planE_skip rfl (by rfl) ?_
                try simp only [List.getElem_toArray, List.getElem_cons_succ, List.getElem_cons_zero, Act.put, List.setIfInBounds_toArray, List.set_cons_zero, List.set_cons_succ]
                refine planE_skip rfl (by rfl) ?_
                try simp only [List.getElem_toArray, List.getElem_cons_succ, List.getElem_cons_zero, Act.put, List.setIfInBounds_toArray, List.set_cons_zero, List.set_cons_succ]
                refine planE_skip rfl (by rfl) ?_
                try simp only [List.getElem_toArray, List.getElem_cons_succ, List.getElem_cons_zero, Act.put, List.setIfInBounds_toArray, List.set_cons_zero, List.set_cons_succ]
                iterate 3 (refine planE_pure (v := ?_) rfl (by rfl) (fun w' => ?_) ?_; rotate_left; (focus (simp only [List.getElem_toArray, List.getElem_cons_succ, List.getElem_cons_zero]; go_simp; first | with_reducible rfl | (simp (disch := omega) only [if_pos, if_neg, dif_pos, Result.andThen_ok]; try with_reducible rfl) | skip)); try simp only [List.getElem_toArray, List.getElem_cons_succ, List.getElem_cons_zero, Act.put, List.setIfInBounds_toArray, List.set_cons_zero, List.set_cons_succ])
                refine planE_end ?_
                go_wp2_with fail
                go_ret
                exact ⟨rfl, hBq⟩
end Go.Proofs.YthdmnajcphaekaaDoor
