/- snap's (*Joiner).Add, a piece of another snapshot, at its beginning. -/
import Derived.Test.YtogcdbodlomgeaaJoinB
namespace Go.Proofs.Ytogcdbodlomgeaa
open Go.RowKit

set_option maxRecDepth 20000 in
set_option maxHeartbeats 4000000 in
theorem joinAdd_otherB (g : Nat) (oi ot ji jt : Int) (ho q : List UInt8) (last : Bool) (D : Option Addr) (c : Nat) (d : List UInt8) (base : Nat) (w : World) (hj : Jn w base g 67 oi ot ho) (hho : ho.length ≤ 32768) (hgb : g < base) (hbs : base ≤ w.heap.size)
    (hD : RB w D d) (hdn : ∀ b off, 0 < d.length → D = some ⟨b, off, none⟩ → b ≠ g) (hd : d.length ≤ 256) (hp : ji ≠ 0) (hql : q.length ≤ 0) (hne : ji = oi) (hne2 : ot ≠ jt) :
    Calls Try.prog 37 #[.pointer (some ⟨g, 0, none⟩), .agg #[.int .u64 ji, .int .u64 jt, .int .i64 (q.length : Int), .bool last, .slice D d.length c]] w (AddE (addG ji jt [] q last d) base g 67 w) := by
  have hbw := (Below.refl w.heap.size w).alloc (Nat.le_refl _) (.cells #[.int .u64 ji, .int .u64 jt, .int .i64 (q.length : Int), .bool last, .slice D d.length c] 25)
  have hbx := Blk.new w #[.int .u64 ji, .int .u64 jt, .int .i64 (q.length : Int), .bool last, .slice D d.length c] 25
  obtain ⟨Ho, cho, hb, hob⟩ := hj
  have hb' := hb.kept hbw
  have hcap' := hob.cap
  have c0 := hb'.cell 0 rfl
  have c1 := hb'.cell 1 rfl
  have c2 := hb'.cell 2 rfl
  have x0 := hbx.cell 0 rfl
  have x1 := hbx.cell 1 rfl
  have x2 := hbx.cell 2 rfl
  have x3 := hbx.cell 3 rfl
  have x4 := hbx.cell 4 rfl
  obtain ⟨H, h, ch, hE⟩ : ∃ (H : Option Addr) (h : List UInt8) (ch : Nat), Hid (H = none ∧ h = [] ∧ ch = 0) := ⟨none, [], 0, Lib.hid ⟨rfl, rfl, rfl⟩⟩
  have hh0 : h.length ≤ 0 := by rw [hE.out.2.1]; simp
  have hcap : h.length ≤ ch ∧ ch ≤ 9223372036854775807 := by rw [hE.out.2.1, hE.out.2.2]; simp
  have hq : Hid (q = h.take q.length) := Lib.hid (by rw [hE.out.2.1, List.eq_nil_of_length_eq_zero (Nat.le_zero.1 hql)]; rfl)
  have hEg : addG ji jt [] q last d = addG ji jt h q last d := by rw [hE.out.2.1]
  rw [hEg]
  clear hEg
  subst hne
  have h2 : (ot == jt) = false := by simpa using hne2
  have e1 : (ji == 0) = false := by simpa using hp
  have e2 : ¬ (256 : Int) < (d.length : Int) := by omega
  have e3 : ¬ (q.length : Int) < 0 := by omega
  have e4 : ((q.length : Int) != 0) = false := by rw [show (q.length : Int) = 0 from by omega]; rfl
  have e5 : ¬ (h.length : Int) < (q.length : Int) := by omega
  have e6 : (q.length : Int) ≤ (ch : Int) := by omega
  have e7 : q.length ≤ ch := by omega
  have hqs : q.length ≤ 512 := by omega
  have hhs : h.length ≤ 32768 := by omega
  clear hql hh0
  have hDw := hD.below hbw
  have hgw : g < w.heap.size := by omega
  replace hbw := gb_below (r := some g) hbw
  have HH := Lib.hid (And.intro hb' (And.intro hbx (And.intro hbw (And.intro hDw hdn))))
  clear hb hob hb' hbx hbw hDw hD hcap' hdn
  by_cases hk : q.length + d.length ≤ h.length
  · have k1 : (q.length : Int) + (d.length : Int) ≤ (h.length : Int) := by omega
    by_cases hl : last = false
    · subst hl
      go_enter Try.func37, Try.ntmps37
      go_wp2_with fail
      go_quiet (fail)
      go_wp2_with (refine wpList_store_row rfl 67 (.tmp 47) (.tmp 46) rfl g _ rfl rfl _ _ (HH.out.1.drewN _) joiner_size rfl (by simp [Value.oneCell']) ?_)
      obtain ⟨hb0, hbx0, hbw0, hD0, hne0⟩ := HH.out
      have hb' := (hb0.drewN nq).setRow #[.int .u64 ji, .int .u64 jt, .slice none 0 0]
      have hbx := (hbx0.drewN nq).setRow_other (k := g) #[.int .u64 ji, .int .u64 jt, .slice none 0 0] (by omega)
      have hbw := gb_setRow (gb_drewN hbw0 nq) #[.int .u64 ji, .int .u64 jt, .slice none 0 0]
      have hDw := (hD0.drewN nq).setRow hne0 #[.int .u64 ji, .int .u64 jt, .slice none 0 0]
      clear hb0 hbx0 hbw0 hD0 hne0 HH c0 c1 c2 x0 x1 x2 x3 x4
      generalize ((w.alloc (.cells #[.int .u64 ji, .int .u64 jt, .int .i64 (q.length : Int), .bool false, .slice D d.length c] 25)).drewN nq).setRow g #[.int .u64 ji, .int .u64 jt, .slice none 0 0] = w3 at *
      have hob' : OB w3 base none 0 [] := OB.nil _ _
      rw [show (Value.slice none 0 0) = .slice H h.length ch from by rw [hE.out.1, hE.out.2.1, hE.out.2.2]; rfl] at hb'
      have hob' : OB w3 base H ch h := by rw [hE.out.1, hE.out.2.1, hE.out.2.2]; exact OB.nil _ _
      have c0 := hb'.cell 0 rfl
      have c1 := hb'.cell 1 rfl
      have c2 := hb'.cell 2 rfl
      have x0 := hbx.cell 0 rfl
      have x1 := hbx.cell 1 rfl
      have x2 := hbx.cell 2 rfl
      have x3 := hbx.cell 3 rfl
      have x4 := hbx.cell 4 rfl
      have HH := Lib.hid (And.intro hb' (And.intro hob' (And.intro hbx (And.intro hbw hDw))))
      clear hb' hob' hbx hbw hDw
      go_wp2_with fail
      go_quiet (fail)
      go_wp2_with fail
      go_quiet (fail)
      go_wp2_with fail
      refine bodyPost_ret (v := .tuple #[.int .i64 (h.length : Int), .slice none 0 0, .bool false, .int .i64 0]) (by simp [results, Try.results37, go_sem]) rfl ?_
      obtain ⟨hb', hob', hbx, hbw, hDw⟩ := HH.out
      exact ⟨h.length, [], false, 0, ji, jt, h, none, 0, Lib.hid (by rw [addG, if_pos ⟨hk, rfl⟩]), by simp, by omega, rfl, ⟨H, ch, hb', hob'⟩, RB.nil, gb_drewN hbw _⟩
    · obtain rfl : last = true := by simpa using hl
      go_enter Try.func37, Try.ntmps37
      go_wp2_with fail
      go_quiet (fail)
      go_wp2_with (refine wpList_store_row rfl 67 (.tmp 47) (.tmp 46) rfl g _ rfl rfl _ _ (HH.out.1.drewN _) joiner_size rfl (by simp [Value.oneCell']) ?_)
      obtain ⟨hb0, hbx0, hbw0, hD0, hne0⟩ := HH.out
      have hb' := (hb0.drewN nq).setRow #[.int .u64 ji, .int .u64 jt, .slice none 0 0]
      have hbx := (hbx0.drewN nq).setRow_other (k := g) #[.int .u64 ji, .int .u64 jt, .slice none 0 0] (by omega)
      have hbw := gb_setRow (gb_drewN hbw0 nq) #[.int .u64 ji, .int .u64 jt, .slice none 0 0]
      have hDw := (hD0.drewN nq).setRow hne0 #[.int .u64 ji, .int .u64 jt, .slice none 0 0]
      clear hb0 hbx0 hbw0 hD0 hne0 HH c0 c1 c2 x0 x1 x2 x3 x4
      generalize ((w.alloc (.cells #[.int .u64 ji, .int .u64 jt, .int .i64 (q.length : Int), .bool true, .slice D d.length c] 25)).drewN nq).setRow g #[.int .u64 ji, .int .u64 jt, .slice none 0 0] = w3 at *
      have hob' : OB w3 base none 0 [] := OB.nil _ _
      rw [show (Value.slice none 0 0) = .slice H h.length ch from by rw [hE.out.1, hE.out.2.1, hE.out.2.2]; rfl] at hb'
      have hob' : OB w3 base H ch h := by rw [hE.out.1, hE.out.2.1, hE.out.2.2]; exact OB.nil _ _
      have c0 := hb'.cell 0 rfl
      have c1 := hb'.cell 1 rfl
      have c2 := hb'.cell 2 rfl
      have x0 := hbx.cell 0 rfl
      have x1 := hbx.cell 1 rfl
      have x2 := hbx.cell 2 rfl
      have x3 := hbx.cell 3 rfl
      have x4 := hbx.cell 4 rfl
      have HH := Lib.hid (And.intro hb' (And.intro hob' (And.intro hbx (And.intro hbw hDw))))
      clear hb' hob' hbx hbw hDw
      go_wp2_with fail
      go_quiet (fail)
      go_wp2_with fail
      go_quiet (fail)
      go_wp2_with fail

      obtain ⟨hb', hob', hbx, hbw, hDw⟩ := HH.out
      have HQ : RB w3 H q := by
        have := hob'.rb.take' q.length
        rwa [← hq.out] at this
      have HF := Lib.hid (And.intro hb' (And.intro hob' (And.intro hbx (And.intro hbw (And.intro hDw HQ)))))
      clear hb' hob' hbx hbw hDw HQ HH
      refine wp_region_planE (by kernel_rfl) [(0, none), (1, none), (2, none), (3, none), (4, none), (5, none), (6, none), (7, none), (9, none), (10, none), (8, some []), (11, some [10]), (12, none), (13, none), (14, some [4, 6, 10])] (by kernel_rfl) (by kernel_rfl) (by decide) ?_
      iterate 4 (refine planE_pure (v := ?_) rfl (by rfl) (fun w' => ?_) ?_; rotate_left; (focus (simp only [List.getElem_toArray, List.getElem_cons_succ, List.getElem_cons_zero]; go_simp; try with_reducible rfl)); try simp only [List.getElem_toArray, List.getElem_cons_succ, List.getElem_cons_zero, Act.put, List.setIfInBounds_toArray, List.set_cons_zero, List.set_cons_succ])
      refine planE_read (v := ?_) (fun w' => w'.cell? ⟨g, 2, none⟩ = some (.slice H h.length ch)) rfl (by rfl) (fun w' hw' => ?_) c2 ?_; rotate_left; (focus (simp only [List.getElem_toArray, List.getElem_cons_succ, List.getElem_cons_zero]; go_simp; try with_reducible rfl)); try simp only [List.getElem_toArray, List.getElem_cons_succ, List.getElem_cons_zero, Act.put, List.setIfInBounds_toArray, List.set_cons_zero, List.set_cons_succ]
      iterate 1 (refine planE_pure (v := ?_) rfl (by rfl) (fun w' => ?_) ?_; rotate_left; (focus (simp only [List.getElem_toArray, List.getElem_cons_succ, List.getElem_cons_zero]; go_simp; try with_reducible rfl)); try simp only [List.getElem_toArray, List.getElem_cons_succ, List.getElem_cons_zero, Act.put, List.setIfInBounds_toArray, List.set_cons_zero, List.set_cons_succ])
      refine planE_read (v := ?_) (fun w' => w'.cell? ⟨w.heap.size, 2, none⟩ = some (.int .i64 (q.length : Int))) rfl (by rfl) (fun w' hw' => ?_) x2 ?_; rotate_left; (focus (simp only [List.getElem_toArray, List.getElem_cons_succ, List.getElem_cons_zero]; go_simp; try with_reducible rfl)); try simp only [List.getElem_toArray, List.getElem_cons_succ, List.getElem_cons_zero, Act.put, List.setIfInBounds_toArray, List.set_cons_zero, List.set_cons_succ]
      iterate 2 (refine planE_pure (v := ?_) rfl (by rfl) (fun w' => ?_) ?_; rotate_left; (focus (simp only [List.getElem_toArray, List.getElem_cons_succ, List.getElem_cons_zero]; go_simp; try with_reducible rfl)); try simp only [List.getElem_toArray, List.getElem_cons_succ, List.getElem_cons_zero, Act.put, List.setIfInBounds_toArray, List.set_cons_zero, List.set_cons_succ])
      refine planE_read (v := ?_) (fun w' => w'.cell? ⟨w.heap.size, 4, none⟩ = some (.slice D d.length c)) rfl (by rfl) (fun w' hw' => ?_) x4 ?_; rotate_left; (focus (simp only [List.getElem_toArray, List.getElem_cons_succ, List.getElem_cons_zero]; go_simp; try with_reducible rfl)); try simp only [List.getElem_toArray, List.getElem_cons_succ, List.getElem_cons_zero, Act.put, List.setIfInBounds_toArray, List.set_cons_zero, List.set_cons_succ]
      refine planE_eff rfl (by rfl) (fun K hK => ?_)
      go_simp
      obtain ⟨hb', hob', hbx, hbw, hDw, HQ⟩ := HF.out
      refine (cloneB H ch q _ (HQ.drewN _) (by omega)).mono ?_
      rintro e w6 ⟨q6, A6, c6, hq6, hq61, hq62, rfl, ho6, hb6⟩
      have hB6 : w.grownBy w6 (some g) := gb_trans (gb_drewN hbw _) (gb_below hb6)
      have hb6' := (hb'.drewN _).kept hb6
      have hbx6 := (hbx.drewN _).kept hb6
      have hD6 := (hDw.drewN _).below hb6
      have hsz6 : w.heap.size + 1 ≤ w6.heap.size := by have := hb6.size; have := hbx.lt; simp at *; omega
      have c26 := hb6'.cell 2 rfl
      have x26 := hbx6.cell 2 rfl
      have x46 := hbx6.cell 4 rfl
      have ho6' := ho6.base_le (base' := w.heap.size + 1) (by have := hbx.lt; simp; omega)
      refine hK _ _ (by simp [owed, left]; exact ⟨x46, x26, c26⟩) ?_
      clear hK K HF hb' hob' hbx hbw hDw HQ hb6 ho6
      try simp only [List.getElem_toArray, List.getElem_cons_succ, List.getElem_cons_zero, Act.put, List.setIfInBounds_toArray, List.set_cons_zero, List.set_cons_succ]
      refine planE_eff rfl (by rfl) (fun K hK => ?_)
      refine op_appendB w6 (.tmp 88) (.tmp 90) (by rfl) (w.heap.size + 1) A6 D c6 c q6 d (by rfl) (by rfl) ho6' hD6 (by omega) hsz6 ?_
      intro p7 P7 cp7 w7 hp7 hp71 hp72 ho7 hg7
      have hlo : ∀ k, (Value.slice A6 q6.length c6).ownBlock = some k → w.heap.size + 1 ≤ k := fun k hk => (ho6'.own_lt k hk).1
      have hb7 := hb6'.grown hg7 (by intro e'; have := hlo _ e'; omega)
      have hbx7 := hbx6.grown hg7 (by intro e'; have := hlo _ e'; omega)
      have hB7 := gb_own hB6 hg7 fun k hk => by have := hlo k hk; omega
      have c27 := hb7.cell 2 rfl
      have f27 := hb7.free 2
      have x27 := hbx7.cell 2 rfl
      refine hK _ _ (by simp [owed, left]; exact ⟨x27, c27⟩) ?_
      clear hK K
      try simp only [List.getElem_toArray, List.getElem_cons_succ, List.getElem_cons_zero, Act.put, List.setIfInBounds_toArray, List.set_cons_zero, List.set_cons_succ]
      iterate 2 (refine planE_pure (v := ?_) rfl (by rfl) (fun w' => ?_) ?_; rotate_left; (focus (simp only [List.getElem_toArray, List.getElem_cons_succ, List.getElem_cons_zero]; go_simp; try with_reducible rfl)); try simp only [List.getElem_toArray, List.getElem_cons_succ, List.getElem_cons_zero, Act.put, List.setIfInBounds_toArray, List.set_cons_zero, List.set_cons_succ])
      refine planE_eff rfl (by rfl) (fun K hK => ?_)
      go_simp
      refine hK _ _ (by simp [owed, left]) ?_
      clear hK K
      try simp only [List.getElem_toArray, List.getElem_cons_succ, List.getElem_cons_zero, Act.put, List.setIfInBounds_toArray, List.set_cons_zero, List.set_cons_succ]
      refine planE_end ?_
      have hb8 := hb7.setCell 2 (.slice P7 p7.length cp7)
      have hbx8 := hbx7.setCell_other (a := ⟨g, 2, none⟩) (.slice P7 p7.length cp7) (by simp; omega)
      have ho8 := ho7.setCell (a := ⟨g, 2, none⟩) (by simp; omega) (.slice P7 p7.length cp7)
      have hg8 := gb_setCell (g := g) hB7 2 (.slice P7 p7.length cp7)
      rw [show (#[Value.int .u64 ji, .int .u64 jt, .slice H h.length ch].setIfInBounds 2 (.slice P7 p7.length cp7)) = #[.int .u64 ji, .int .u64 jt, .slice P7 p7.length cp7] from rfl] at hb8
      have HP : Hid (p7 = q ++ d) := Lib.hid (by rw [hp7.out, hq6.out])
      have hpl1 : p7.length ≤ q.length + d.length := by rw [HP.out, List.length_append]; exact Nat.le_refl _
      have hpl2 : q.length + d.length ≤ p7.length := by rw [HP.out, List.length_append]; exact Nat.le_refl _
      clear hb7 hbx7 ho7 hB7 hg7 hp7 hp71 hp72 c27 f27 x27 hb6' hbx6 hB6 ho6' hD6 c26 x26 x46 hq6 hq61 hq62 hsz6 hlo c0 c1 c2 x0 x1 x2 x3 x4
      generalize w7.setCell ⟨g, 2, none⟩ (.slice P7 p7.length cp7) = w8 at *
      have c0 := hb8.cell 0 rfl
      have c1 := hb8.cell 1 rfl
      have c2 := hb8.cell 2 rfl
      have f0 := hb8.free 0
      have f1 := hb8.free 1
      have f2 := hb8.free 2
      have x3 := hbx8.cell 3 rfl

      by_cases hL : 32768 < p7.length
      · exact absurd hL (by omega)
      · have k2 : ¬ (32768 : Int) < (p7.length : Int) := by omega
        have HL := Lib.hid hL
        clear hL
        go_wp2_with (refine wpList_store_row rfl 67 (.tmp 112) (.tmp 111) rfl g _ rfl rfl _ _ hb8 joiner_size rfl (by simp [Value.oneCell']) ?_)
        have hbx9 := hbx8.setRow_other (k := g) #[.int .u64 0, .int .u64 0, .slice none 0 0] (by omega)
        have x3' := hbx9.cell 3 rfl
        have hg9 := gb_setRow hg8 #[.int .u64 0, .int .u64 0, .slice none 0 0]
        have hb9 := hb8.setRow #[.int .u64 0, .int .u64 0, .slice none 0 0]
        have hr9 := ho8.rb.setRow (k := g) (by intro b off hn e e'; have := ho8.blk_ne (k := g) (by omega); apply this; rw [e]; simp [e']) #[.int .u64 0, .int .u64 0, .slice none 0 0]
        clear hbx9 hb8 hbx8 ho8 hg8 c0 c1 c2 f0 f1 f2 x3
        generalize w8.setRow g #[.int .u64 0, .int .u64 0, .slice none 0 0] = w9 at *
        go_quiet (fail)
        go_wp2_with fail
        refine bodyPost_ret (v := .tuple #[.int .i64 (p7.length : Int), .slice P7 p7.length cp7, .bool true, .int .i64 0]) (by simp [results, Try.results37, go_sem]) rfl ?_
        have hz : addG ji jt h q true d = ⟨(q ++ d).length, q ++ d, true, 0, 0, 0, []⟩ := by rw [addG, if_neg (by simp), if_neg (by have := HL.out; omega), if_pos rfl]
        exact ⟨p7.length, p7, true, 0, 0, 0, [], P7, cp7, Lib.hid (by rw [hz, ← HP.out]), by have := HL.out; omega, by simp, rfl, ⟨none, 0, hb9.drewN _, OB.nil _ _⟩, hr9.drewN _, gb_drewN hg9 _⟩
  · have k1 : decide ((q.length : Int) + (d.length : Int) ≤ (h.length : Int)) = false := by simp; omega
    have hkH := Lib.hid hk
    clear hk
    by_cases hl : last = false
    · subst hl
      go_enter Try.func37, Try.ntmps37
      go_wp2_with fail
      go_quiet (fail)
      go_wp2_with (refine wpList_store_row rfl 67 (.tmp 47) (.tmp 46) rfl g _ rfl rfl _ _ (HH.out.1.drewN _) joiner_size rfl (by simp [Value.oneCell']) ?_)
      obtain ⟨hb0, hbx0, hbw0, hD0, hne0⟩ := HH.out
      have hb' := (hb0.drewN nq).setRow #[.int .u64 ji, .int .u64 jt, .slice none 0 0]
      have hbx := (hbx0.drewN nq).setRow_other (k := g) #[.int .u64 ji, .int .u64 jt, .slice none 0 0] (by omega)
      have hbw := gb_setRow (gb_drewN hbw0 nq) #[.int .u64 ji, .int .u64 jt, .slice none 0 0]
      have hDw := (hD0.drewN nq).setRow hne0 #[.int .u64 ji, .int .u64 jt, .slice none 0 0]
      clear hb0 hbx0 hbw0 hD0 hne0 HH c0 c1 c2 x0 x1 x2 x3 x4
      generalize ((w.alloc (.cells #[.int .u64 ji, .int .u64 jt, .int .i64 (q.length : Int), .bool false, .slice D d.length c] 25)).drewN nq).setRow g #[.int .u64 ji, .int .u64 jt, .slice none 0 0] = w3 at *
      have hob' : OB w3 base none 0 [] := OB.nil _ _
      rw [show (Value.slice none 0 0) = .slice H h.length ch from by rw [hE.out.1, hE.out.2.1, hE.out.2.2]; rfl] at hb'
      have hob' : OB w3 base H ch h := by rw [hE.out.1, hE.out.2.1, hE.out.2.2]; exact OB.nil _ _
      have c0 := hb'.cell 0 rfl
      have c1 := hb'.cell 1 rfl
      have c2 := hb'.cell 2 rfl
      have x0 := hbx.cell 0 rfl
      have x1 := hbx.cell 1 rfl
      have x2 := hbx.cell 2 rfl
      have x3 := hbx.cell 3 rfl
      have x4 := hbx.cell 4 rfl
      have HH := Lib.hid (And.intro hb' (And.intro hob' (And.intro hbx (And.intro hbw hDw))))
      clear hb' hob' hbx hbw hDw
      go_wp2_with fail
      go_quiet (fail)
      go_wp2_with fail
      go_quiet (fail)
      go_wp2_with fail

      obtain ⟨hb', hob', hbx, hbw, hDw⟩ := HH.out
      have HQ : RB w3 H q := by
        have := hob'.rb.take' q.length
        rwa [← hq.out] at this
      have HF := Lib.hid (And.intro hb' (And.intro hob' (And.intro hbx (And.intro hbw (And.intro hDw HQ)))))
      clear hb' hob' hbx hbw hDw HQ HH
      refine wp_region_planE (by kernel_rfl) [(0, none), (1, none), (2, none), (3, none), (4, none), (5, none), (6, none), (7, none), (9, none), (10, none), (8, some []), (11, some [10]), (12, none), (13, none), (14, some [4, 6, 10])] (by kernel_rfl) (by kernel_rfl) (by decide) ?_
      iterate 4 (refine planE_pure (v := ?_) rfl (by rfl) (fun w' => ?_) ?_; rotate_left; (focus (simp only [List.getElem_toArray, List.getElem_cons_succ, List.getElem_cons_zero]; go_simp; try with_reducible rfl)); try simp only [List.getElem_toArray, List.getElem_cons_succ, List.getElem_cons_zero, Act.put, List.setIfInBounds_toArray, List.set_cons_zero, List.set_cons_succ])
      refine planE_read (v := ?_) (fun w' => w'.cell? ⟨g, 2, none⟩ = some (.slice H h.length ch)) rfl (by rfl) (fun w' hw' => ?_) c2 ?_; rotate_left; (focus (simp only [List.getElem_toArray, List.getElem_cons_succ, List.getElem_cons_zero]; go_simp; try with_reducible rfl)); try simp only [List.getElem_toArray, List.getElem_cons_succ, List.getElem_cons_zero, Act.put, List.setIfInBounds_toArray, List.set_cons_zero, List.set_cons_succ]
      iterate 1 (refine planE_pure (v := ?_) rfl (by rfl) (fun w' => ?_) ?_; rotate_left; (focus (simp only [List.getElem_toArray, List.getElem_cons_succ, List.getElem_cons_zero]; go_simp; try with_reducible rfl)); try simp only [List.getElem_toArray, List.getElem_cons_succ, List.getElem_cons_zero, Act.put, List.setIfInBounds_toArray, List.set_cons_zero, List.set_cons_succ])
      refine planE_read (v := ?_) (fun w' => w'.cell? ⟨w.heap.size, 2, none⟩ = some (.int .i64 (q.length : Int))) rfl (by rfl) (fun w' hw' => ?_) x2 ?_; rotate_left; (focus (simp only [List.getElem_toArray, List.getElem_cons_succ, List.getElem_cons_zero]; go_simp; try with_reducible rfl)); try simp only [List.getElem_toArray, List.getElem_cons_succ, List.getElem_cons_zero, Act.put, List.setIfInBounds_toArray, List.set_cons_zero, List.set_cons_succ]
      iterate 2 (refine planE_pure (v := ?_) rfl (by rfl) (fun w' => ?_) ?_; rotate_left; (focus (simp only [List.getElem_toArray, List.getElem_cons_succ, List.getElem_cons_zero]; go_simp; try with_reducible rfl)); try simp only [List.getElem_toArray, List.getElem_cons_succ, List.getElem_cons_zero, Act.put, List.setIfInBounds_toArray, List.set_cons_zero, List.set_cons_succ])
      refine planE_read (v := ?_) (fun w' => w'.cell? ⟨w.heap.size, 4, none⟩ = some (.slice D d.length c)) rfl (by rfl) (fun w' hw' => ?_) x4 ?_; rotate_left; (focus (simp only [List.getElem_toArray, List.getElem_cons_succ, List.getElem_cons_zero]; go_simp; try with_reducible rfl)); try simp only [List.getElem_toArray, List.getElem_cons_succ, List.getElem_cons_zero, Act.put, List.setIfInBounds_toArray, List.set_cons_zero, List.set_cons_succ]
      refine planE_eff rfl (by rfl) (fun K hK => ?_)
      go_simp
      obtain ⟨hb', hob', hbx, hbw, hDw, HQ⟩ := HF.out
      refine (cloneB H ch q _ (HQ.drewN _) (by omega)).mono ?_
      rintro e w6 ⟨q6, A6, c6, hq6, hq61, hq62, rfl, ho6, hb6⟩
      have hB6 : w.grownBy w6 (some g) := gb_trans (gb_drewN hbw _) (gb_below hb6)
      have hb6' := (hb'.drewN _).kept hb6
      have hbx6 := (hbx.drewN _).kept hb6
      have hD6 := (hDw.drewN _).below hb6
      have hsz6 : w.heap.size + 1 ≤ w6.heap.size := by have := hb6.size; have := hbx.lt; simp at *; omega
      have c26 := hb6'.cell 2 rfl
      have x26 := hbx6.cell 2 rfl
      have x46 := hbx6.cell 4 rfl
      have ho6' := ho6.base_le (base' := w.heap.size + 1) (by have := hbx.lt; simp; omega)
      refine hK _ _ (by simp [owed, left]; exact ⟨x46, x26, c26⟩) ?_
      clear hK K HF hb' hob' hbx hbw hDw HQ hb6 ho6
      try simp only [List.getElem_toArray, List.getElem_cons_succ, List.getElem_cons_zero, Act.put, List.setIfInBounds_toArray, List.set_cons_zero, List.set_cons_succ]
      refine planE_eff rfl (by rfl) (fun K hK => ?_)
      refine op_appendB w6 (.tmp 88) (.tmp 90) (by rfl) (w.heap.size + 1) A6 D c6 c q6 d (by rfl) (by rfl) ho6' hD6 (by omega) hsz6 ?_
      intro p7 P7 cp7 w7 hp7 hp71 hp72 ho7 hg7
      have hlo : ∀ k, (Value.slice A6 q6.length c6).ownBlock = some k → w.heap.size + 1 ≤ k := fun k hk => (ho6'.own_lt k hk).1
      have hb7 := hb6'.grown hg7 (by intro e'; have := hlo _ e'; omega)
      have hbx7 := hbx6.grown hg7 (by intro e'; have := hlo _ e'; omega)
      have hB7 := gb_own hB6 hg7 fun k hk => by have := hlo k hk; omega
      have c27 := hb7.cell 2 rfl
      have f27 := hb7.free 2
      have x27 := hbx7.cell 2 rfl
      refine hK _ _ (by simp [owed, left]; exact ⟨x27, c27⟩) ?_
      clear hK K
      try simp only [List.getElem_toArray, List.getElem_cons_succ, List.getElem_cons_zero, Act.put, List.setIfInBounds_toArray, List.set_cons_zero, List.set_cons_succ]
      iterate 2 (refine planE_pure (v := ?_) rfl (by rfl) (fun w' => ?_) ?_; rotate_left; (focus (simp only [List.getElem_toArray, List.getElem_cons_succ, List.getElem_cons_zero]; go_simp; try with_reducible rfl)); try simp only [List.getElem_toArray, List.getElem_cons_succ, List.getElem_cons_zero, Act.put, List.setIfInBounds_toArray, List.set_cons_zero, List.set_cons_succ])
      refine planE_eff rfl (by rfl) (fun K hK => ?_)
      go_simp
      refine hK _ _ (by simp [owed, left]) ?_
      clear hK K
      try simp only [List.getElem_toArray, List.getElem_cons_succ, List.getElem_cons_zero, Act.put, List.setIfInBounds_toArray, List.set_cons_zero, List.set_cons_succ]
      refine planE_end ?_
      have hb8 := hb7.setCell 2 (.slice P7 p7.length cp7)
      have hbx8 := hbx7.setCell_other (a := ⟨g, 2, none⟩) (.slice P7 p7.length cp7) (by simp; omega)
      have ho8 := ho7.setCell (a := ⟨g, 2, none⟩) (by simp; omega) (.slice P7 p7.length cp7)
      have hg8 := gb_setCell (g := g) hB7 2 (.slice P7 p7.length cp7)
      rw [show (#[Value.int .u64 ji, .int .u64 jt, .slice H h.length ch].setIfInBounds 2 (.slice P7 p7.length cp7)) = #[.int .u64 ji, .int .u64 jt, .slice P7 p7.length cp7] from rfl] at hb8
      have HP : Hid (p7 = q ++ d) := Lib.hid (by rw [hp7.out, hq6.out])
      have hpl1 : p7.length ≤ q.length + d.length := by rw [HP.out, List.length_append]; exact Nat.le_refl _
      have hpl2 : q.length + d.length ≤ p7.length := by rw [HP.out, List.length_append]; exact Nat.le_refl _
      clear hb7 hbx7 ho7 hB7 hg7 hp7 hp71 hp72 c27 f27 x27 hb6' hbx6 hB6 ho6' hD6 c26 x26 x46 hq6 hq61 hq62 hsz6 hlo c0 c1 c2 x0 x1 x2 x3 x4
      generalize w7.setCell ⟨g, 2, none⟩ (.slice P7 p7.length cp7) = w8 at *
      have c0 := hb8.cell 0 rfl
      have c1 := hb8.cell 1 rfl
      have c2 := hb8.cell 2 rfl
      have f0 := hb8.free 0
      have f1 := hb8.free 1
      have f2 := hb8.free 2
      have x3 := hbx8.cell 3 rfl

      by_cases hL : 32768 < p7.length
      · exact absurd hL (by omega)
      · have k2 : ¬ (32768 : Int) < (p7.length : Int) := by omega
        have HL := Lib.hid hL
        clear hL
        go_wp2_with fail
        go_quiet (fail)
        go_wp2_with fail
        refine bodyPost_ret (v := .tuple #[.int .i64 (p7.length : Int), .slice none 0 0, .bool false, .int .i64 0]) (by simp [results, Try.results37, go_sem]) rfl ?_
        have hz : addG ji jt h q false d = ⟨(q ++ d).length, [], false, 0, ji, jt, q ++ d⟩ := by rw [addG, if_neg (by have := hkH.out; omega), if_neg (by have := HL.out; omega), if_neg (by simp)]
        exact ⟨p7.length, [], false, 0, ji, jt, p7, none, 0, Lib.hid (by rw [hz, ← HP.out]), by simp, by have := HL.out; omega, rfl, ⟨P7, cp7, hb8.drewN _, (ho8.base_le (by omega)).drewN _⟩, RB.nil, gb_drewN hg8 _⟩
    · obtain rfl : last = true := by simpa using hl
      go_enter Try.func37, Try.ntmps37
      go_wp2_with fail
      go_quiet (fail)
      go_wp2_with (refine wpList_store_row rfl 67 (.tmp 47) (.tmp 46) rfl g _ rfl rfl _ _ (HH.out.1.drewN _) joiner_size rfl (by simp [Value.oneCell']) ?_)
      obtain ⟨hb0, hbx0, hbw0, hD0, hne0⟩ := HH.out
      have hb' := (hb0.drewN nq).setRow #[.int .u64 ji, .int .u64 jt, .slice none 0 0]
      have hbx := (hbx0.drewN nq).setRow_other (k := g) #[.int .u64 ji, .int .u64 jt, .slice none 0 0] (by omega)
      have hbw := gb_setRow (gb_drewN hbw0 nq) #[.int .u64 ji, .int .u64 jt, .slice none 0 0]
      have hDw := (hD0.drewN nq).setRow hne0 #[.int .u64 ji, .int .u64 jt, .slice none 0 0]
      clear hb0 hbx0 hbw0 hD0 hne0 HH c0 c1 c2 x0 x1 x2 x3 x4
      generalize ((w.alloc (.cells #[.int .u64 ji, .int .u64 jt, .int .i64 (q.length : Int), .bool true, .slice D d.length c] 25)).drewN nq).setRow g #[.int .u64 ji, .int .u64 jt, .slice none 0 0] = w3 at *
      have hob' : OB w3 base none 0 [] := OB.nil _ _
      rw [show (Value.slice none 0 0) = .slice H h.length ch from by rw [hE.out.1, hE.out.2.1, hE.out.2.2]; rfl] at hb'
      have hob' : OB w3 base H ch h := by rw [hE.out.1, hE.out.2.1, hE.out.2.2]; exact OB.nil _ _
      have c0 := hb'.cell 0 rfl
      have c1 := hb'.cell 1 rfl
      have c2 := hb'.cell 2 rfl
      have x0 := hbx.cell 0 rfl
      have x1 := hbx.cell 1 rfl
      have x2 := hbx.cell 2 rfl
      have x3 := hbx.cell 3 rfl
      have x4 := hbx.cell 4 rfl
      have HH := Lib.hid (And.intro hb' (And.intro hob' (And.intro hbx (And.intro hbw hDw))))
      clear hb' hob' hbx hbw hDw
      go_wp2_with fail
      go_quiet (fail)
      go_wp2_with fail
      go_quiet (fail)
      go_wp2_with fail

      obtain ⟨hb', hob', hbx, hbw, hDw⟩ := HH.out
      have HQ : RB w3 H q := by
        have := hob'.rb.take' q.length
        rwa [← hq.out] at this
      have HF := Lib.hid (And.intro hb' (And.intro hob' (And.intro hbx (And.intro hbw (And.intro hDw HQ)))))
      clear hb' hob' hbx hbw hDw HQ HH
      refine wp_region_planE (by kernel_rfl) [(0, none), (1, none), (2, none), (3, none), (4, none), (5, none), (6, none), (7, none), (9, none), (10, none), (8, some []), (11, some [10]), (12, none), (13, none), (14, some [4, 6, 10])] (by kernel_rfl) (by kernel_rfl) (by decide) ?_
      iterate 4 (refine planE_pure (v := ?_) rfl (by rfl) (fun w' => ?_) ?_; rotate_left; (focus (simp only [List.getElem_toArray, List.getElem_cons_succ, List.getElem_cons_zero]; go_simp; try with_reducible rfl)); try simp only [List.getElem_toArray, List.getElem_cons_succ, List.getElem_cons_zero, Act.put, List.setIfInBounds_toArray, List.set_cons_zero, List.set_cons_succ])
      refine planE_read (v := ?_) (fun w' => w'.cell? ⟨g, 2, none⟩ = some (.slice H h.length ch)) rfl (by rfl) (fun w' hw' => ?_) c2 ?_; rotate_left; (focus (simp only [List.getElem_toArray, List.getElem_cons_succ, List.getElem_cons_zero]; go_simp; try with_reducible rfl)); try simp only [List.getElem_toArray, List.getElem_cons_succ, List.getElem_cons_zero, Act.put, List.setIfInBounds_toArray, List.set_cons_zero, List.set_cons_succ]
      iterate 1 (refine planE_pure (v := ?_) rfl (by rfl) (fun w' => ?_) ?_; rotate_left; (focus (simp only [List.getElem_toArray, List.getElem_cons_succ, List.getElem_cons_zero]; go_simp; try with_reducible rfl)); try simp only [List.getElem_toArray, List.getElem_cons_succ, List.getElem_cons_zero, Act.put, List.setIfInBounds_toArray, List.set_cons_zero, List.set_cons_succ])
      refine planE_read (v := ?_) (fun w' => w'.cell? ⟨w.heap.size, 2, none⟩ = some (.int .i64 (q.length : Int))) rfl (by rfl) (fun w' hw' => ?_) x2 ?_; rotate_left; (focus (simp only [List.getElem_toArray, List.getElem_cons_succ, List.getElem_cons_zero]; go_simp; try with_reducible rfl)); try simp only [List.getElem_toArray, List.getElem_cons_succ, List.getElem_cons_zero, Act.put, List.setIfInBounds_toArray, List.set_cons_zero, List.set_cons_succ]
      iterate 2 (refine planE_pure (v := ?_) rfl (by rfl) (fun w' => ?_) ?_; rotate_left; (focus (simp only [List.getElem_toArray, List.getElem_cons_succ, List.getElem_cons_zero]; go_simp; try with_reducible rfl)); try simp only [List.getElem_toArray, List.getElem_cons_succ, List.getElem_cons_zero, Act.put, List.setIfInBounds_toArray, List.set_cons_zero, List.set_cons_succ])
      refine planE_read (v := ?_) (fun w' => w'.cell? ⟨w.heap.size, 4, none⟩ = some (.slice D d.length c)) rfl (by rfl) (fun w' hw' => ?_) x4 ?_; rotate_left; (focus (simp only [List.getElem_toArray, List.getElem_cons_succ, List.getElem_cons_zero]; go_simp; try with_reducible rfl)); try simp only [List.getElem_toArray, List.getElem_cons_succ, List.getElem_cons_zero, Act.put, List.setIfInBounds_toArray, List.set_cons_zero, List.set_cons_succ]
      refine planE_eff rfl (by rfl) (fun K hK => ?_)
      go_simp
      obtain ⟨hb', hob', hbx, hbw, hDw, HQ⟩ := HF.out
      refine (cloneB H ch q _ (HQ.drewN _) (by omega)).mono ?_
      rintro e w6 ⟨q6, A6, c6, hq6, hq61, hq62, rfl, ho6, hb6⟩
      have hB6 : w.grownBy w6 (some g) := gb_trans (gb_drewN hbw _) (gb_below hb6)
      have hb6' := (hb'.drewN _).kept hb6
      have hbx6 := (hbx.drewN _).kept hb6
      have hD6 := (hDw.drewN _).below hb6
      have hsz6 : w.heap.size + 1 ≤ w6.heap.size := by have := hb6.size; have := hbx.lt; simp at *; omega
      have c26 := hb6'.cell 2 rfl
      have x26 := hbx6.cell 2 rfl
      have x46 := hbx6.cell 4 rfl
      have ho6' := ho6.base_le (base' := w.heap.size + 1) (by have := hbx.lt; simp; omega)
      refine hK _ _ (by simp [owed, left]; exact ⟨x46, x26, c26⟩) ?_
      clear hK K HF hb' hob' hbx hbw hDw HQ hb6 ho6
      try simp only [List.getElem_toArray, List.getElem_cons_succ, List.getElem_cons_zero, Act.put, List.setIfInBounds_toArray, List.set_cons_zero, List.set_cons_succ]
      refine planE_eff rfl (by rfl) (fun K hK => ?_)
      refine op_appendB w6 (.tmp 88) (.tmp 90) (by rfl) (w.heap.size + 1) A6 D c6 c q6 d (by rfl) (by rfl) ho6' hD6 (by omega) hsz6 ?_
      intro p7 P7 cp7 w7 hp7 hp71 hp72 ho7 hg7
      have hlo : ∀ k, (Value.slice A6 q6.length c6).ownBlock = some k → w.heap.size + 1 ≤ k := fun k hk => (ho6'.own_lt k hk).1
      have hb7 := hb6'.grown hg7 (by intro e'; have := hlo _ e'; omega)
      have hbx7 := hbx6.grown hg7 (by intro e'; have := hlo _ e'; omega)
      have hB7 := gb_own hB6 hg7 fun k hk => by have := hlo k hk; omega
      have c27 := hb7.cell 2 rfl
      have f27 := hb7.free 2
      have x27 := hbx7.cell 2 rfl
      refine hK _ _ (by simp [owed, left]; exact ⟨x27, c27⟩) ?_
      clear hK K
      try simp only [List.getElem_toArray, List.getElem_cons_succ, List.getElem_cons_zero, Act.put, List.setIfInBounds_toArray, List.set_cons_zero, List.set_cons_succ]
      iterate 2 (refine planE_pure (v := ?_) rfl (by rfl) (fun w' => ?_) ?_; rotate_left; (focus (simp only [List.getElem_toArray, List.getElem_cons_succ, List.getElem_cons_zero]; go_simp; try with_reducible rfl)); try simp only [List.getElem_toArray, List.getElem_cons_succ, List.getElem_cons_zero, Act.put, List.setIfInBounds_toArray, List.set_cons_zero, List.set_cons_succ])
      refine planE_eff rfl (by rfl) (fun K hK => ?_)
      go_simp
      refine hK _ _ (by simp [owed, left]) ?_
      clear hK K
      try simp only [List.getElem_toArray, List.getElem_cons_succ, List.getElem_cons_zero, Act.put, List.setIfInBounds_toArray, List.set_cons_zero, List.set_cons_succ]
      refine planE_end ?_
      have hb8 := hb7.setCell 2 (.slice P7 p7.length cp7)
      have hbx8 := hbx7.setCell_other (a := ⟨g, 2, none⟩) (.slice P7 p7.length cp7) (by simp; omega)
      have ho8 := ho7.setCell (a := ⟨g, 2, none⟩) (by simp; omega) (.slice P7 p7.length cp7)
      have hg8 := gb_setCell (g := g) hB7 2 (.slice P7 p7.length cp7)
      rw [show (#[Value.int .u64 ji, .int .u64 jt, .slice H h.length ch].setIfInBounds 2 (.slice P7 p7.length cp7)) = #[.int .u64 ji, .int .u64 jt, .slice P7 p7.length cp7] from rfl] at hb8
      have HP : Hid (p7 = q ++ d) := Lib.hid (by rw [hp7.out, hq6.out])
      have hpl1 : p7.length ≤ q.length + d.length := by rw [HP.out, List.length_append]; exact Nat.le_refl _
      have hpl2 : q.length + d.length ≤ p7.length := by rw [HP.out, List.length_append]; exact Nat.le_refl _
      clear hb7 hbx7 ho7 hB7 hg7 hp7 hp71 hp72 c27 f27 x27 hb6' hbx6 hB6 ho6' hD6 c26 x26 x46 hq6 hq61 hq62 hsz6 hlo c0 c1 c2 x0 x1 x2 x3 x4
      generalize w7.setCell ⟨g, 2, none⟩ (.slice P7 p7.length cp7) = w8 at *
      have c0 := hb8.cell 0 rfl
      have c1 := hb8.cell 1 rfl
      have c2 := hb8.cell 2 rfl
      have f0 := hb8.free 0
      have f1 := hb8.free 1
      have f2 := hb8.free 2
      have x3 := hbx8.cell 3 rfl

      by_cases hL : 32768 < p7.length
      · exact absurd hL (by omega)
      · have k2 : ¬ (32768 : Int) < (p7.length : Int) := by omega
        have HL := Lib.hid hL
        clear hL
        go_wp2_with (refine wpList_store_row rfl 67 (.tmp 112) (.tmp 111) rfl g _ rfl rfl _ _ hb8 joiner_size rfl (by simp [Value.oneCell']) ?_)
        have hbx9 := hbx8.setRow_other (k := g) #[.int .u64 0, .int .u64 0, .slice none 0 0] (by omega)
        have x3' := hbx9.cell 3 rfl
        have hg9 := gb_setRow hg8 #[.int .u64 0, .int .u64 0, .slice none 0 0]
        have hb9 := hb8.setRow #[.int .u64 0, .int .u64 0, .slice none 0 0]
        have hr9 := ho8.rb.setRow (k := g) (by intro b off hn e e'; have := ho8.blk_ne (k := g) (by omega); apply this; rw [e]; simp [e']) #[.int .u64 0, .int .u64 0, .slice none 0 0]
        clear hbx9 hb8 hbx8 ho8 hg8 c0 c1 c2 f0 f1 f2 x3
        generalize w8.setRow g #[.int .u64 0, .int .u64 0, .slice none 0 0] = w9 at *
        go_quiet (fail)
        go_wp2_with fail
        refine bodyPost_ret (v := .tuple #[.int .i64 (p7.length : Int), .slice P7 p7.length cp7, .bool true, .int .i64 0]) (by simp [results, Try.results37, go_sem]) rfl ?_
        have hz : addG ji jt h q true d = ⟨(q ++ d).length, q ++ d, true, 0, 0, 0, []⟩ := by rw [addG, if_neg (by have := hkH.out; omega), if_neg (by have := HL.out; omega), if_pos rfl]
        exact ⟨p7.length, p7, true, 0, 0, 0, [], P7, cp7, Lib.hid (by rw [hz, ← HP.out]), by have := HL.out; omega, by simp, rfl, ⟨none, 0, hb9.drewN _, OB.nil _ _⟩, hr9.drewN _, gb_drewN hg9 _⟩
end Go.Proofs.Ytogcdbodlomgeaa
