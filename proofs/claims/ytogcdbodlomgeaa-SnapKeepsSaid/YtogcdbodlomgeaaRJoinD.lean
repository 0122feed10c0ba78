/- The reference's (*Joiner).Add, a piece of another snapshot, at its beginning. -/
import Derived.Test.YtogcdbodlomgeaaRJoinB
namespace Go.Proofs.Ytogcdbodlomgeaa
open Go.RowKit

theorem rAdd_otherB_world {P : Program} {c : Code} {Q : Exit → Act → World → Prop} {a : Act} {w : World} (h : ∀ w', w' = w → c.wp P Q a w') : c.wp P Q a w := h w rfl

set_option maxRecDepth 20000 in
set_option maxHeartbeats 4000000 in
theorem rAdd_otherB (g : Nat) (oi ot ji jt : Int) (ho q : List UInt8) (last : Bool) (D : Option Addr) (c : Nat) (d : List UInt8) (base : Nat) (w : World) (hj : Jn w base g 49 oi ot ho) (hho : ho.length ≤ 32768) (hgb : g < base) (hbs : base ≤ w.heap.size)
    (hD : RB w D d) (hdn : ∀ b off, 0 < d.length → D = some ⟨b, off, none⟩ → b ≠ g) (hd : d.length ≤ 256) (hp : ji ≠ 0) (hql : q.length ≤ 0) (hne : ji = oi) (hne2 : jt ≠ ot) :
    Calls Try.prog 39 #[.pointer (some ⟨g, 0, none⟩), .agg #[.int .u64 ji, .int .u64 jt, .int .i64 (q.length : Int), .bool last, .slice D d.length c]] w (AddE (addG ji jt [] q last d) base g 49 w) := by
  have hbw := (Below.refl w.heap.size w).alloc (Nat.le_refl _) (.cells #[.int .u64 ji, .int .u64 jt, .int .i64 (q.length : Int), .bool last, .slice D d.length c] 29)
  have hbx := Blk.new w #[.int .u64 ji, .int .u64 jt, .int .i64 (q.length : Int), .bool last, .slice D d.length c] 29
  obtain ⟨Ho, cho, hb, hob⟩ := hj
  have hb' := hb.kept hbw
  have hcap' := hob.cap
  have c0 := hb'.cell 0 rfl
  have c1 := hb'.cell 1 rfl
  have c2 := hb'.cell 2 rfl
  have f0 := hb'.free 0
  have f1 := hb'.free 1
  have f2 := hb'.free 2
  have x0 := hbx.cell 0 rfl
  have x1 := hbx.cell 1 rfl
  have x2 := hbx.cell 2 rfl
  have x3 := hbx.cell 3 rfl
  have x4 := hbx.cell 4 rfl
  obtain ⟨H, h, ch, hE⟩ : ∃ (H : Option Addr) (h : List UInt8) (ch : Nat), Hid (H = none ∧ h = [] ∧ ch = 0) := ⟨none, [], 0, Lib.hid ⟨rfl, rfl, rfl⟩⟩
  have hh0 : h.length ≤ 0 := by rw [hE.out.2.1]; simp
  have hcap : h.length ≤ ch ∧ ch ≤ 9223372036854775807 := by rw [hE.out.2.1, hE.out.2.2]; simp
  have hq : Hid (q = h.take q.length) := Lib.hid (by rw [hE.out.2.1, List.eq_nil_of_length_eq_zero (Nat.le_zero.1 hql)]; rfl)
  have hEg : addG ji jt [] q last d = addG ji jt h q last d := by rw [hE.out.2.1]
  rw [hEg]
  clear hEg
  subst hne
  have h2 : (jt != ot) = true := by simpa using hne2
  have e1 : (ji == 0) = false := by simpa using hp
  have e2 : ¬ (256 : Int) < (d.length : Int) := by omega
  have e3 : ¬ (q.length : Int) < 0 := by omega
  have e4 : ((q.length : Int) != 0) = false := by rw [show (q.length : Int) = 0 from by omega]; rfl
  have e5 : ¬ (h.length : Int) < (q.length : Int) := by omega
  have e6 : (q.length : Int) ≤ (ch : Int) := by omega
  have e7 : q.length ≤ ch := by omega
  have hqs : q.length ≤ 512 := by omega
  have hhs : h.length ≤ 32768 := by omega
  clear hql hh0
  have hdl : ∀ b off, 0 < d.length → D = some ⟨b, off, none⟩ → b < w.heap.size := fun b off hn e => by
    obtain ⟨b', off', e', hlt, _⟩ := hD.at_ hn
    rw [e] at e'
    injection e' with e'
    injection e' with e1 e2
    omega
  have HDL := Lib.hid hdl
  have hDw := hD.below hbw
  have hgw : g < w.heap.size := by omega
  replace hbw := gb_below (r := some g) hbw
  have HH := Lib.hid (And.intro hb' (And.intro hbx (And.intro hbw (And.intro hDw hdn))))
  clear hb hob hb' hbx hbw hDw hD hcap' hdn hdl
  by_cases hk : q.length + d.length ≤ h.length
  · have k1 : (q.length : Int) + (d.length : Int) ≤ (h.length : Int) := by omega
    by_cases hl : last = false
    · subst hl
      go_enter Try.func39, Try.ntmps39
      go_wp2_with fail
      go_quiet (fail)
      go_wp2_with fail
      go_quiet (fail)
      go_wp2_with fail
      refine rAdd_otherB_world (fun w3 hw3 => ?_)
      obtain ⟨hb0, hbx0, hbw0, hD0, hne0⟩ := HH.out
      have hb' : Blk w3 g 49 #[.int .u64 ji, .int .u64 jt, .slice none 0 0] := by rw [hw3]; exact ((hb0.setCell 0 _).setCell 1 _).setCell 2 _
      have hbx : Blk w3 w.heap.size 29 #[.int .u64 ji, .int .u64 jt, .int .i64 (q.length : Int), .bool false, .slice D d.length c] := by
        rw [hw3]
        exact ((hbx0.setCell_other (a := ⟨g, 0, none⟩) (.int .u64 ji) (by simp; omega)).setCell_other (a := ⟨g, 1, none⟩) (.int .u64 jt) (by simp; omega)).setCell_other (a := ⟨g, 2, none⟩) (.slice none 0 0) (by simp; omega)
      have hbw : w.grownBy w3 (some g) := by
        rw [hw3]
        have t := gb_setCell (gb_setCell (gb_setCell hbw0 0 (.int .u64 ji)) 1 (.int .u64 jt)) 2 (.slice none 0 0)
        exact ⟨t.os, t.tape, t.output, t.size, t.block⟩
      have hDw : RB w3 D d := by
        rw [hw3]
        have t := ((hD0.setCell (a := ⟨g, 0, none⟩) hne0 (.int .u64 ji)).setCell (a := ⟨g, 1, none⟩) hne0 (.int .u64 jt)).setCell (a := ⟨g, 2, none⟩) hne0 (.slice none 0 0)
        exact ⟨t.at_⟩
      clear hb0 hbx0 hbw0 hD0 hne0 HH c0 c1 c2 x0 x1 x2 x3 x4 f0 f1 f2 hw3
      rw [show (Value.slice none 0 0) = .slice H h.length ch from by rw [hE.out.1, hE.out.2.1, hE.out.2.2]; rfl] at hb'
      have hob' : OB w3 base H ch h := by rw [hE.out.1, hE.out.2.1, hE.out.2.2]; exact OB.nil _ _
      have c0 := hb'.cell 0 rfl
      have c1 := hb'.cell 1 rfl
      have c2 := hb'.cell 2 rfl
      have x0 := hbx.cell 0 rfl
      have x1 := hbx.cell 1 rfl
      have x2 := hbx.cell 2 rfl
      have x3 := hbx.cell 3 rfl
      have x4 := hbx.cell 4 rfl
      have HH := Lib.hid (And.intro hb' (And.intro hob' (And.intro hbx (And.intro hbw hDw))))
      clear hb' hob' hbx hbw hDw
      go_quiet (fail)
      go_wp2_with fail
      refine bodyPost_ret (v := .tuple #[.int .i64 (h.length : Int), .slice none 0 0, .bool false, .int .i64 0]) (by simp [results, Try.results39, go_sem]) rfl ?_
      obtain ⟨hb', hob', hbx, hbw, hDw⟩ := HH.out
      exact ⟨h.length, [], false, 0, ji, jt, h, none, 0, Lib.hid (by rw [addG, if_pos ⟨hk, rfl⟩]), by simp, by omega, rfl, ⟨H, ch, hb', hob'⟩, RB.nil, gb_drewN hbw _⟩
    · obtain rfl : last = true := by simpa using hl
      go_enter Try.func39, Try.ntmps39
      go_wp2_with fail
      go_quiet (fail)
      go_wp2_with fail
      go_quiet (fail)
      go_wp2_with fail
      refine rAdd_otherB_world (fun w3 hw3 => ?_)
      obtain ⟨hb0, hbx0, hbw0, hD0, hne0⟩ := HH.out
      have hb' : Blk w3 g 49 #[.int .u64 ji, .int .u64 jt, .slice none 0 0] := by rw [hw3]; exact ((hb0.setCell 0 _).setCell 1 _).setCell 2 _
      have hbx : Blk w3 w.heap.size 29 #[.int .u64 ji, .int .u64 jt, .int .i64 (q.length : Int), .bool true, .slice D d.length c] := by
        rw [hw3]
        exact ((hbx0.setCell_other (a := ⟨g, 0, none⟩) (.int .u64 ji) (by simp; omega)).setCell_other (a := ⟨g, 1, none⟩) (.int .u64 jt) (by simp; omega)).setCell_other (a := ⟨g, 2, none⟩) (.slice none 0 0) (by simp; omega)
      have hbw : w.grownBy w3 (some g) := by
        rw [hw3]
        have t := gb_setCell (gb_setCell (gb_setCell hbw0 0 (.int .u64 ji)) 1 (.int .u64 jt)) 2 (.slice none 0 0)
        exact ⟨t.os, t.tape, t.output, t.size, t.block⟩
      have hDw : RB w3 D d := by
        rw [hw3]
        have t := ((hD0.setCell (a := ⟨g, 0, none⟩) hne0 (.int .u64 ji)).setCell (a := ⟨g, 1, none⟩) hne0 (.int .u64 jt)).setCell (a := ⟨g, 2, none⟩) hne0 (.slice none 0 0)
        exact ⟨t.at_⟩
      clear hb0 hbx0 hbw0 hD0 hne0 HH c0 c1 c2 x0 x1 x2 x3 x4 f0 f1 f2 hw3
      rw [show (Value.slice none 0 0) = .slice H h.length ch from by rw [hE.out.1, hE.out.2.1, hE.out.2.2]; rfl] at hb'
      have hob' : OB w3 base H ch h := by rw [hE.out.1, hE.out.2.1, hE.out.2.2]; exact OB.nil _ _
      have c0 := hb'.cell 0 rfl
      have c1 := hb'.cell 1 rfl
      have c2 := hb'.cell 2 rfl
      have x0 := hbx.cell 0 rfl
      have x1 := hbx.cell 1 rfl
      have x2 := hbx.cell 2 rfl
      have x3 := hbx.cell 3 rfl
      have x4 := hbx.cell 4 rfl
      have HH := Lib.hid (And.intro hb' (And.intro hob' (And.intro hbx (And.intro hbw hDw))))
      clear hb' hob' hbx hbw hDw
      go_quiet (fail)
      go_wp2_with fail

      refine wp_region_planE_gen (by kernel_rfl) [(1, none), (2, none), (3, none), (4, none), (5, none), (6, none), (7, none), (0, some []), (8, some []), (9, none)] (by kernel_rfl) (by kernel_rfl) (by decide) ?_
      intro wq hwq
      obtain ⟨hb', hob', hbx, hbw, hDw⟩ := HH.out
      have HQ : RB w3 H q := by
        have := hob'.rb.take' q.length
        rwa [← hq.out] at this
      have hbq : Blk wq g 49 #[.int .u64 ji, .int .u64 jt, .slice H h.length ch] := by rw [hwq]; exact hb'
      have hxq : Blk wq w.heap.size 29 #[.int .u64 ji, .int .u64 jt, .int .i64 (q.length : Int), .bool true, .slice D d.length c] := by rw [hwq]; exact hbx
      have hgq : w.grownBy wq (some g) := by rw [hwq]; exact ⟨hbw.os, hbw.tape, hbw.output, hbw.size, hbw.block⟩
      have hDq : RB wq D d := by rw [hwq]; exact ⟨hDw.at_⟩
      have hQq : RB wq H q := by rw [hwq]; exact ⟨HQ.at_⟩
      clear hb' hob' hbx hbw hDw HQ HH hwq c0 c1 c2 x0 x1 x2 x3 x4
      have c2 := hbq.cell 2 rfl
      have x2 := hxq.cell 2 rfl
      iterate 3 (refine planE_pure (v := ?_) rfl (by rfl) (fun w' => ?_) ?_; rotate_left; (focus (simp only [List.getElem_toArray, List.getElem_cons_succ, List.getElem_cons_zero]; go_simp; try with_reducible rfl)); try simp only [List.getElem_toArray, List.getElem_cons_succ, List.getElem_cons_zero, Act.put, List.setIfInBounds_toArray, List.set_cons_zero, List.set_cons_succ])
      refine planE_read (v := ?_) (fun w' => w'.cell? ⟨g, 2, none⟩ = some (.slice H h.length ch)) rfl (by rfl) (fun w' hw' => ?_) c2 ?_; rotate_left; (focus (simp only [List.getElem_toArray, List.getElem_cons_succ, List.getElem_cons_zero]; go_simp; try with_reducible rfl)); try simp only [List.getElem_toArray, List.getElem_cons_succ, List.getElem_cons_zero, Act.put, List.setIfInBounds_toArray, List.set_cons_zero, List.set_cons_succ]
      iterate 1 (refine planE_pure (v := ?_) rfl (by rfl) (fun w' => ?_) ?_; rotate_left; (focus (simp only [List.getElem_toArray, List.getElem_cons_succ, List.getElem_cons_zero]; go_simp; try with_reducible rfl)); try simp only [List.getElem_toArray, List.getElem_cons_succ, List.getElem_cons_zero, Act.put, List.setIfInBounds_toArray, List.set_cons_zero, List.set_cons_succ])
      refine planE_read (v := ?_) (fun w' => w'.cell? ⟨w.heap.size, 2, none⟩ = some (.int .i64 (q.length : Int))) rfl (by rfl) (fun w' hw' => ?_) x2 ?_; rotate_left; (focus (simp only [List.getElem_toArray, List.getElem_cons_succ, List.getElem_cons_zero]; go_simp; try with_reducible rfl)); try simp only [List.getElem_toArray, List.getElem_cons_succ, List.getElem_cons_zero, Act.put, List.setIfInBounds_toArray, List.set_cons_zero, List.set_cons_succ]
      iterate 1 (refine planE_pure (v := ?_) rfl (by rfl) (fun w' => ?_) ?_; rotate_left; (focus (simp only [List.getElem_toArray, List.getElem_cons_succ, List.getElem_cons_zero]; go_simp; try with_reducible rfl)); try simp only [List.getElem_toArray, List.getElem_cons_succ, List.getElem_cons_zero, Act.put, List.setIfInBounds_toArray, List.set_cons_zero, List.set_cons_succ])
      refine planE_eff rfl (by rfl) (fun K hK => ?_)
      go_simp
      have hb6 := hbq.kept ((Below.refl _ _).alloc (Nat.le_refl _) (.cells #[] 5))
      have hx6 := hxq.kept ((Below.refl _ _).alloc (Nat.le_refl _) (.cells #[] 5))
      have hg6 := gb_trans hgq (gb_below ((Below.refl _ _).alloc (Nat.le_refl _) (.cells #[] 5)))
      have hD6 := hDq.alloc (.cells #[] 5)
      have hQ6 := hQq.alloc (.cells #[] 5)
      have hO6 := OB.made0 wq (Nat.le_refl _)
      have hs6 : wq.heap.size ≤ (wq.alloc (.cells #[] 5)).heap.size := by simp
      have hxl := hxq.lt
      have c26 := hb6.cell 2 rfl
      have x26 := hx6.cell 2 rfl
      refine hK _ _ (by simp [owed, left]; exact ⟨x26, c26⟩) ?_
      clear hK K
      try simp only [List.getElem_toArray, List.getElem_cons_succ, List.getElem_cons_zero, Act.put, List.setIfInBounds_toArray, List.set_cons_zero, List.set_cons_succ]
      generalize wq.alloc (.cells #[] 5) = w6 at *
      refine planE_eff rfl (by rfl) (fun K hK => ?_)
      refine op_appendB w6 (.tmp 96) (.tmp 103) (by rfl) wq.heap.size (some ⟨wq.heap.size, 0, none⟩) H 0 ch [] q (by rfl) (by rfl) hO6 hQ6 (by simp; omega) hs6 ?_
      intro q7 A7 c7 w7 hq7 hq71 hq72 ho7 hgr7
      have hlo : ∀ k, (Value.slice (some ⟨wq.heap.size, 0, none⟩) ([] : List UInt8).length 0).ownBlock = some k → w.heap.size + 1 ≤ k := fun k hk => by simp [Value.ownBlock] at hk; omega
      have hb7 := hb6.grown hgr7 (by intro e'; have := hlo _ e'; omega)
      have hx7 := hx6.grown hgr7 (by intro e'; have := hlo _ e'; omega)
      have hg7 := gb_own hg6 hgr7 fun k hk => by have := hlo k hk; omega
      have hD7 := RB.grownD hD6 hgr7 (by intro b off hn e e'; have := HDL.out b off hn e; have := hlo b e'; omega)
      have hs7 := Nat.le_trans hs6 hgr7.size
      have c27 := hb7.cell 2 rfl
      have x27 := hx7.cell 2 rfl
      have x47 := hx7.cell 4 rfl
      have x37 := hx7.cell 3 rfl
      refine hK _ _ (by simp [owed, left]; exact ⟨x27, c27⟩) ?_
      clear hK K
      try simp only [List.getElem_toArray, List.getElem_cons_succ, List.getElem_cons_zero, Act.put, List.setIfInBounds_toArray, List.set_cons_zero, List.set_cons_succ]
      iterate 1 (refine planE_pure (v := ?_) rfl (by rfl) (fun w' => ?_) ?_; rotate_left; (focus (simp only [List.getElem_toArray, List.getElem_cons_succ, List.getElem_cons_zero]; go_simp; try with_reducible rfl)); try simp only [List.getElem_toArray, List.getElem_cons_succ, List.getElem_cons_zero, Act.put, List.setIfInBounds_toArray, List.set_cons_zero, List.set_cons_succ])
      refine planE_end ?_
      have ho7' := ho7.base_le (base' := w.heap.size + 1) (by omega)
      have hq7' : Hid (q7 = q) := Lib.hid (by simpa using hq7.out)
      simp only [List.length_nil, Nat.zero_add] at hq71 hq72
      have hlo7 : ∀ k, (Value.slice A7 q7.length c7).ownBlock = some k → w.heap.size + 1 ≤ k := fun k hk => (ho7'.own_lt k hk).1
      clear hq7 hgr7 hlo hb6 hx6 hg6 hD6 hQ6 hO6 c26 x26 hbq hxq hgq hDq hQq c2 x2 hs6 ho7
      go_wp2_with (at_builtin; refine wp_appendB _ rfl (.tmp 105) (.tmp 107) rfl (w.heap.size + 1) A7 D c7 c q7 d rfl rfl ho7' hD7 (by omega) (by omega) ?_; intro p8 P8 cp8 w8 hp8 hp81 hp82 ho8 hgr8; have hb8 := hb7.grown hgr8 (by intro e'; have := hlo7 _ e'; omega); have hx8 := hx7.grown hgr8 (by intro e'; have := hlo7 _ e'; omega); have c28 := hb8.cell 2 rfl; have c18 := hb8.cell 1 rfl; have c08 := hb8.cell 0 rfl; have f28 := hb8.free 2; have f18 := hb8.free 1; have f08 := hb8.free 0; have x38 := hx8.cell 3 rfl; have k2 : ¬ (32768 : Int) < (p8.length : Int) := by omega)
      have hg8 := gb_own hg7 hgr8 fun k hk => by have := hlo7 k hk; omega
      have HP : Hid (p8 = q ++ d) := Lib.hid (by rw [hp8.out, hq7'.out])
      have ho8' := ho8.setCell (a := ⟨g, 2, none⟩) (by simp; omega) (.slice P8 p8.length cp8)

      refine bodyPost_ret (v := .tuple #[.int .i64 (p8.length : Int), .slice P8 p8.length cp8, .bool true, .int .i64 0]) (by simp [results, Try.results39, go_sem]) rfl ?_
      have hz : addG ji jt h q true d = ⟨(q ++ d).length, q ++ d, true, 0, 0, 0, []⟩ := by rw [addG, if_neg (by simp), if_neg (by omega), if_pos rfl]
      exact ⟨p8.length, p8, true, 0, 0, 0, [], P8, cp8, Lib.hid (by rw [hz, ← HP.out]), by omega, by simp, rfl, ⟨none, 0, (((hb8.setCell 2 _).setCell 0 _).setCell 1 _).setCell 2 _, OB.nil _ _⟩, (((ho8'.setCell (a := ⟨g, 0, none⟩) (by simp; omega) _).setCell (a := ⟨g, 1, none⟩) (by simp; omega) _).setCell (a := ⟨g, 2, none⟩) (by simp; omega) _).rb, gb_setCell (gb_setCell (gb_setCell (gb_setCell hg8 2 _) 0 _) 1 _) 2 _⟩
  · have k1 : decide ((q.length : Int) + (d.length : Int) ≤ (h.length : Int)) = false := by simp; omega
    have hkH := Lib.hid hk
    clear hk
    by_cases hl : last = false
    · subst hl
      go_enter Try.func39, Try.ntmps39
      go_wp2_with fail
      go_quiet (fail)
      go_wp2_with fail
      go_quiet (fail)
      go_wp2_with fail
      refine rAdd_otherB_world (fun w3 hw3 => ?_)
      obtain ⟨hb0, hbx0, hbw0, hD0, hne0⟩ := HH.out
      have hb' : Blk w3 g 49 #[.int .u64 ji, .int .u64 jt, .slice none 0 0] := by rw [hw3]; exact ((hb0.setCell 0 _).setCell 1 _).setCell 2 _
      have hbx : Blk w3 w.heap.size 29 #[.int .u64 ji, .int .u64 jt, .int .i64 (q.length : Int), .bool false, .slice D d.length c] := by
        rw [hw3]
        exact ((hbx0.setCell_other (a := ⟨g, 0, none⟩) (.int .u64 ji) (by simp; omega)).setCell_other (a := ⟨g, 1, none⟩) (.int .u64 jt) (by simp; omega)).setCell_other (a := ⟨g, 2, none⟩) (.slice none 0 0) (by simp; omega)
      have hbw : w.grownBy w3 (some g) := by
        rw [hw3]
        have t := gb_setCell (gb_setCell (gb_setCell hbw0 0 (.int .u64 ji)) 1 (.int .u64 jt)) 2 (.slice none 0 0)
        exact ⟨t.os, t.tape, t.output, t.size, t.block⟩
      have hDw : RB w3 D d := by
        rw [hw3]
        have t := ((hD0.setCell (a := ⟨g, 0, none⟩) hne0 (.int .u64 ji)).setCell (a := ⟨g, 1, none⟩) hne0 (.int .u64 jt)).setCell (a := ⟨g, 2, none⟩) hne0 (.slice none 0 0)
        exact ⟨t.at_⟩
      clear hb0 hbx0 hbw0 hD0 hne0 HH c0 c1 c2 x0 x1 x2 x3 x4 f0 f1 f2 hw3
      rw [show (Value.slice none 0 0) = .slice H h.length ch from by rw [hE.out.1, hE.out.2.1, hE.out.2.2]; rfl] at hb'
      have hob' : OB w3 base H ch h := by rw [hE.out.1, hE.out.2.1, hE.out.2.2]; exact OB.nil _ _
      have c0 := hb'.cell 0 rfl
      have c1 := hb'.cell 1 rfl
      have c2 := hb'.cell 2 rfl
      have x0 := hbx.cell 0 rfl
      have x1 := hbx.cell 1 rfl
      have x2 := hbx.cell 2 rfl
      have x3 := hbx.cell 3 rfl
      have x4 := hbx.cell 4 rfl
      have HH := Lib.hid (And.intro hb' (And.intro hob' (And.intro hbx (And.intro hbw hDw))))
      clear hb' hob' hbx hbw hDw
      go_quiet (fail)
      go_wp2_with fail

      refine wp_region_planE_gen (by kernel_rfl) [(1, none), (2, none), (3, none), (4, none), (5, none), (6, none), (7, none), (0, some []), (8, some []), (9, none)] (by kernel_rfl) (by kernel_rfl) (by decide) ?_
      intro wq hwq
      obtain ⟨hb', hob', hbx, hbw, hDw⟩ := HH.out
      have HQ : RB w3 H q := by
        have := hob'.rb.take' q.length
        rwa [← hq.out] at this
      have hbq : Blk wq g 49 #[.int .u64 ji, .int .u64 jt, .slice H h.length ch] := by rw [hwq]; exact hb'
      have hxq : Blk wq w.heap.size 29 #[.int .u64 ji, .int .u64 jt, .int .i64 (q.length : Int), .bool false, .slice D d.length c] := by rw [hwq]; exact hbx
      have hgq : w.grownBy wq (some g) := by rw [hwq]; exact ⟨hbw.os, hbw.tape, hbw.output, hbw.size, hbw.block⟩
      have hDq : RB wq D d := by rw [hwq]; exact ⟨hDw.at_⟩
      have hQq : RB wq H q := by rw [hwq]; exact ⟨HQ.at_⟩
      clear hb' hob' hbx hbw hDw HQ HH hwq c0 c1 c2 x0 x1 x2 x3 x4
      have c2 := hbq.cell 2 rfl
      have x2 := hxq.cell 2 rfl
      iterate 3 (refine planE_pure (v := ?_) rfl (by rfl) (fun w' => ?_) ?_; rotate_left; (focus (simp only [List.getElem_toArray, List.getElem_cons_succ, List.getElem_cons_zero]; go_simp; try with_reducible rfl)); try simp only [List.getElem_toArray, List.getElem_cons_succ, List.getElem_cons_zero, Act.put, List.setIfInBounds_toArray, List.set_cons_zero, List.set_cons_succ])
      refine planE_read (v := ?_) (fun w' => w'.cell? ⟨g, 2, none⟩ = some (.slice H h.length ch)) rfl (by rfl) (fun w' hw' => ?_) c2 ?_; rotate_left; (focus (simp only [List.getElem_toArray, List.getElem_cons_succ, List.getElem_cons_zero]; go_simp; try with_reducible rfl)); try simp only [List.getElem_toArray, List.getElem_cons_succ, List.getElem_cons_zero, Act.put, List.setIfInBounds_toArray, List.set_cons_zero, List.set_cons_succ]
      iterate 1 (refine planE_pure (v := ?_) rfl (by rfl) (fun w' => ?_) ?_; rotate_left; (focus (simp only [List.getElem_toArray, List.getElem_cons_succ, List.getElem_cons_zero]; go_simp; try with_reducible rfl)); try simp only [List.getElem_toArray, List.getElem_cons_succ, List.getElem_cons_zero, Act.put, List.setIfInBounds_toArray, List.set_cons_zero, List.set_cons_succ])
      refine planE_read (v := ?_) (fun w' => w'.cell? ⟨w.heap.size, 2, none⟩ = some (.int .i64 (q.length : Int))) rfl (by rfl) (fun w' hw' => ?_) x2 ?_; rotate_left; (focus (simp only [List.getElem_toArray, List.getElem_cons_succ, List.getElem_cons_zero]; go_simp; try with_reducible rfl)); try simp only [List.getElem_toArray, List.getElem_cons_succ, List.getElem_cons_zero, Act.put, List.setIfInBounds_toArray, List.set_cons_zero, List.set_cons_succ]
      iterate 1 (refine planE_pure (v := ?_) rfl (by rfl) (fun w' => ?_) ?_; rotate_left; (focus (simp only [List.getElem_toArray, List.getElem_cons_succ, List.getElem_cons_zero]; go_simp; try with_reducible rfl)); try simp only [List.getElem_toArray, List.getElem_cons_succ, List.getElem_cons_zero, Act.put, List.setIfInBounds_toArray, List.set_cons_zero, List.set_cons_succ])
      refine planE_eff rfl (by rfl) (fun K hK => ?_)
      go_simp
      have hb6 := hbq.kept ((Below.refl _ _).alloc (Nat.le_refl _) (.cells #[] 5))
      have hx6 := hxq.kept ((Below.refl _ _).alloc (Nat.le_refl _) (.cells #[] 5))
      have hg6 := gb_trans hgq (gb_below ((Below.refl _ _).alloc (Nat.le_refl _) (.cells #[] 5)))
      have hD6 := hDq.alloc (.cells #[] 5)
      have hQ6 := hQq.alloc (.cells #[] 5)
      have hO6 := OB.made0 wq (Nat.le_refl _)
      have hs6 : wq.heap.size ≤ (wq.alloc (.cells #[] 5)).heap.size := by simp
      have hxl := hxq.lt
      have c26 := hb6.cell 2 rfl
      have x26 := hx6.cell 2 rfl
      refine hK _ _ (by simp [owed, left]; exact ⟨x26, c26⟩) ?_
      clear hK K
      try simp only [List.getElem_toArray, List.getElem_cons_succ, List.getElem_cons_zero, Act.put, List.setIfInBounds_toArray, List.set_cons_zero, List.set_cons_succ]
      generalize wq.alloc (.cells #[] 5) = w6 at *
      refine planE_eff rfl (by rfl) (fun K hK => ?_)
      refine op_appendB w6 (.tmp 96) (.tmp 103) (by rfl) wq.heap.size (some ⟨wq.heap.size, 0, none⟩) H 0 ch [] q (by rfl) (by rfl) hO6 hQ6 (by simp; omega) hs6 ?_
      intro q7 A7 c7 w7 hq7 hq71 hq72 ho7 hgr7
      have hlo : ∀ k, (Value.slice (some ⟨wq.heap.size, 0, none⟩) ([] : List UInt8).length 0).ownBlock = some k → w.heap.size + 1 ≤ k := fun k hk => by simp [Value.ownBlock] at hk; omega
      have hb7 := hb6.grown hgr7 (by intro e'; have := hlo _ e'; omega)
      have hx7 := hx6.grown hgr7 (by intro e'; have := hlo _ e'; omega)
      have hg7 := gb_own hg6 hgr7 fun k hk => by have := hlo k hk; omega
      have hD7 := RB.grownD hD6 hgr7 (by intro b off hn e e'; have := HDL.out b off hn e; have := hlo b e'; omega)
      have hs7 := Nat.le_trans hs6 hgr7.size
      have c27 := hb7.cell 2 rfl
      have x27 := hx7.cell 2 rfl
      have x47 := hx7.cell 4 rfl
      have x37 := hx7.cell 3 rfl
      refine hK _ _ (by simp [owed, left]; exact ⟨x27, c27⟩) ?_
      clear hK K
      try simp only [List.getElem_toArray, List.getElem_cons_succ, List.getElem_cons_zero, Act.put, List.setIfInBounds_toArray, List.set_cons_zero, List.set_cons_succ]
      iterate 1 (refine planE_pure (v := ?_) rfl (by rfl) (fun w' => ?_) ?_; rotate_left; (focus (simp only [List.getElem_toArray, List.getElem_cons_succ, List.getElem_cons_zero]; go_simp; try with_reducible rfl)); try simp only [List.getElem_toArray, List.getElem_cons_succ, List.getElem_cons_zero, Act.put, List.setIfInBounds_toArray, List.set_cons_zero, List.set_cons_succ])
      refine planE_end ?_
      have ho7' := ho7.base_le (base' := w.heap.size + 1) (by omega)
      have hq7' : Hid (q7 = q) := Lib.hid (by simpa using hq7.out)
      simp only [List.length_nil, Nat.zero_add] at hq71 hq72
      have hlo7 : ∀ k, (Value.slice A7 q7.length c7).ownBlock = some k → w.heap.size + 1 ≤ k := fun k hk => (ho7'.own_lt k hk).1
      clear hq7 hgr7 hlo hb6 hx6 hg6 hD6 hQ6 hO6 c26 x26 hbq hxq hgq hDq hQq c2 x2 hs6 ho7
      go_wp2_with (at_builtin; refine wp_appendB _ rfl (.tmp 105) (.tmp 107) rfl (w.heap.size + 1) A7 D c7 c q7 d rfl rfl ho7' hD7 (by omega) (by omega) ?_; intro p8 P8 cp8 w8 hp8 hp81 hp82 ho8 hgr8; have hb8 := hb7.grown hgr8 (by intro e'; have := hlo7 _ e'; omega); have hx8 := hx7.grown hgr8 (by intro e'; have := hlo7 _ e'; omega); have c28 := hb8.cell 2 rfl; have c18 := hb8.cell 1 rfl; have c08 := hb8.cell 0 rfl; have f28 := hb8.free 2; have f18 := hb8.free 1; have f08 := hb8.free 0; have x38 := hx8.cell 3 rfl; have k2 : ¬ (32768 : Int) < (p8.length : Int) := by omega)
      have hg8 := gb_own hg7 hgr8 fun k hk => by have := hlo7 k hk; omega
      have HP : Hid (p8 = q ++ d) := Lib.hid (by rw [hp8.out, hq7'.out])
      have ho8' := ho8.setCell (a := ⟨g, 2, none⟩) (by simp; omega) (.slice P8 p8.length cp8)

      refine bodyPost_ret (v := .tuple #[.int .i64 (p8.length : Int), .slice none 0 0, .bool false, .int .i64 0]) (by simp [results, Try.results39, go_sem]) rfl ?_
      have hz : addG ji jt h q false d = ⟨(q ++ d).length, [], false, 0, ji, jt, q ++ d⟩ := by rw [addG, if_neg (by have := hkH.out; omega), if_neg (by omega), if_neg (by simp)]
      exact ⟨p8.length, [], false, 0, ji, jt, p8, none, 0, Lib.hid (by rw [hz, ← HP.out]), by simp, by omega, rfl, ⟨P8, cp8, hb8.setCell 2 _, ho8'.base_le (by omega)⟩, RB.nil, gb_setCell hg8 2 _⟩
    · obtain rfl : last = true := by simpa using hl
      go_enter Try.func39, Try.ntmps39
      go_wp2_with fail
      go_quiet (fail)
      go_wp2_with fail
      go_quiet (fail)
      go_wp2_with fail
      refine rAdd_otherB_world (fun w3 hw3 => ?_)
      obtain ⟨hb0, hbx0, hbw0, hD0, hne0⟩ := HH.out
      have hb' : Blk w3 g 49 #[.int .u64 ji, .int .u64 jt, .slice none 0 0] := by rw [hw3]; exact ((hb0.setCell 0 _).setCell 1 _).setCell 2 _
      have hbx : Blk w3 w.heap.size 29 #[.int .u64 ji, .int .u64 jt, .int .i64 (q.length : Int), .bool true, .slice D d.length c] := by
        rw [hw3]
        exact ((hbx0.setCell_other (a := ⟨g, 0, none⟩) (.int .u64 ji) (by simp; omega)).setCell_other (a := ⟨g, 1, none⟩) (.int .u64 jt) (by simp; omega)).setCell_other (a := ⟨g, 2, none⟩) (.slice none 0 0) (by simp; omega)
      have hbw : w.grownBy w3 (some g) := by
        rw [hw3]
        have t := gb_setCell (gb_setCell (gb_setCell hbw0 0 (.int .u64 ji)) 1 (.int .u64 jt)) 2 (.slice none 0 0)
        exact ⟨t.os, t.tape, t.output, t.size, t.block⟩
      have hDw : RB w3 D d := by
        rw [hw3]
        have t := ((hD0.setCell (a := ⟨g, 0, none⟩) hne0 (.int .u64 ji)).setCell (a := ⟨g, 1, none⟩) hne0 (.int .u64 jt)).setCell (a := ⟨g, 2, none⟩) hne0 (.slice none 0 0)
        exact ⟨t.at_⟩
      clear hb0 hbx0 hbw0 hD0 hne0 HH c0 c1 c2 x0 x1 x2 x3 x4 f0 f1 f2 hw3
      rw [show (Value.slice none 0 0) = .slice H h.length ch from by rw [hE.out.1, hE.out.2.1, hE.out.2.2]; rfl] at hb'
      have hob' : OB w3 base H ch h := by rw [hE.out.1, hE.out.2.1, hE.out.2.2]; exact OB.nil _ _
      have c0 := hb'.cell 0 rfl
      have c1 := hb'.cell 1 rfl
      have c2 := hb'.cell 2 rfl
      have x0 := hbx.cell 0 rfl
      have x1 := hbx.cell 1 rfl
      have x2 := hbx.cell 2 rfl
      have x3 := hbx.cell 3 rfl
      have x4 := hbx.cell 4 rfl
      have HH := Lib.hid (And.intro hb' (And.intro hob' (And.intro hbx (And.intro hbw hDw))))
      clear hb' hob' hbx hbw hDw
      go_quiet (fail)
      go_wp2_with fail

      refine wp_region_planE_gen (by kernel_rfl) [(1, none), (2, none), (3, none), (4, none), (5, none), (6, none), (7, none), (0, some []), (8, some []), (9, none)] (by kernel_rfl) (by kernel_rfl) (by decide) ?_
      intro wq hwq
      obtain ⟨hb', hob', hbx, hbw, hDw⟩ := HH.out
      have HQ : RB w3 H q := by
        have := hob'.rb.take' q.length
        rwa [← hq.out] at this
      have hbq : Blk wq g 49 #[.int .u64 ji, .int .u64 jt, .slice H h.length ch] := by rw [hwq]; exact hb'
      have hxq : Blk wq w.heap.size 29 #[.int .u64 ji, .int .u64 jt, .int .i64 (q.length : Int), .bool true, .slice D d.length c] := by rw [hwq]; exact hbx
      have hgq : w.grownBy wq (some g) := by rw [hwq]; exact ⟨hbw.os, hbw.tape, hbw.output, hbw.size, hbw.block⟩
      have hDq : RB wq D d := by rw [hwq]; exact ⟨hDw.at_⟩
      have hQq : RB wq H q := by rw [hwq]; exact ⟨HQ.at_⟩
      clear hb' hob' hbx hbw hDw HQ HH hwq c0 c1 c2 x0 x1 x2 x3 x4
      have c2 := hbq.cell 2 rfl
      have x2 := hxq.cell 2 rfl
      iterate 3 (refine planE_pure (v := ?_) rfl (by rfl) (fun w' => ?_) ?_; rotate_left; (focus (simp only [List.getElem_toArray, List.getElem_cons_succ, List.getElem_cons_zero]; go_simp; try with_reducible rfl)); try simp only [List.getElem_toArray, List.getElem_cons_succ, List.getElem_cons_zero, Act.put, List.setIfInBounds_toArray, List.set_cons_zero, List.set_cons_succ])
      refine planE_read (v := ?_) (fun w' => w'.cell? ⟨g, 2, none⟩ = some (.slice H h.length ch)) rfl (by rfl) (fun w' hw' => ?_) c2 ?_; rotate_left; (focus (simp only [List.getElem_toArray, List.getElem_cons_succ, List.getElem_cons_zero]; go_simp; try with_reducible rfl)); try simp only [List.getElem_toArray, List.getElem_cons_succ, List.getElem_cons_zero, Act.put, List.setIfInBounds_toArray, List.set_cons_zero, List.set_cons_succ]
      iterate 1 (refine planE_pure (v := ?_) rfl (by rfl) (fun w' => ?_) ?_; rotate_left; (focus (simp only [List.getElem_toArray, List.getElem_cons_succ, List.getElem_cons_zero]; go_simp; try with_reducible rfl)); try simp only [List.getElem_toArray, List.getElem_cons_succ, List.getElem_cons_zero, Act.put, List.setIfInBounds_toArray, List.set_cons_zero, List.set_cons_succ])
      refine planE_read (v := ?_) (fun w' => w'.cell? ⟨w.heap.size, 2, none⟩ = some (.int .i64 (q.length : Int))) rfl (by rfl) (fun w' hw' => ?_) x2 ?_; rotate_left; (focus (simp only [List.getElem_toArray, List.getElem_cons_succ, List.getElem_cons_zero]; go_simp; try with_reducible rfl)); try simp only [List.getElem_toArray, List.getElem_cons_succ, List.getElem_cons_zero, Act.put, List.setIfInBounds_toArray, List.set_cons_zero, List.set_cons_succ]
      iterate 1 (refine planE_pure (v := ?_) rfl (by rfl) (fun w' => ?_) ?_; rotate_left; (focus (simp only [List.getElem_toArray, List.getElem_cons_succ, List.getElem_cons_zero]; go_simp; try with_reducible rfl)); try simp only [List.getElem_toArray, List.getElem_cons_succ, List.getElem_cons_zero, Act.put, List.setIfInBounds_toArray, List.set_cons_zero, List.set_cons_succ])
      refine planE_eff rfl (by rfl) (fun K hK => ?_)
      go_simp
      have hb6 := hbq.kept ((Below.refl _ _).alloc (Nat.le_refl _) (.cells #[] 5))
      have hx6 := hxq.kept ((Below.refl _ _).alloc (Nat.le_refl _) (.cells #[] 5))
      have hg6 := gb_trans hgq (gb_below ((Below.refl _ _).alloc (Nat.le_refl _) (.cells #[] 5)))
      have hD6 := hDq.alloc (.cells #[] 5)
      have hQ6 := hQq.alloc (.cells #[] 5)
      have hO6 := OB.made0 wq (Nat.le_refl _)
      have hs6 : wq.heap.size ≤ (wq.alloc (.cells #[] 5)).heap.size := by simp
      have hxl := hxq.lt
      have c26 := hb6.cell 2 rfl
      have x26 := hx6.cell 2 rfl
      refine hK _ _ (by simp [owed, left]; exact ⟨x26, c26⟩) ?_
      clear hK K
      try simp only [List.getElem_toArray, List.getElem_cons_succ, List.getElem_cons_zero, Act.put, List.setIfInBounds_toArray, List.set_cons_zero, List.set_cons_succ]
      generalize wq.alloc (.cells #[] 5) = w6 at *
      refine planE_eff rfl (by rfl) (fun K hK => ?_)
      refine op_appendB w6 (.tmp 96) (.tmp 103) (by rfl) wq.heap.size (some ⟨wq.heap.size, 0, none⟩) H 0 ch [] q (by rfl) (by rfl) hO6 hQ6 (by simp; omega) hs6 ?_
      intro q7 A7 c7 w7 hq7 hq71 hq72 ho7 hgr7
      have hlo : ∀ k, (Value.slice (some ⟨wq.heap.size, 0, none⟩) ([] : List UInt8).length 0).ownBlock = some k → w.heap.size + 1 ≤ k := fun k hk => by simp [Value.ownBlock] at hk; omega
      have hb7 := hb6.grown hgr7 (by intro e'; have := hlo _ e'; omega)
      have hx7 := hx6.grown hgr7 (by intro e'; have := hlo _ e'; omega)
      have hg7 := gb_own hg6 hgr7 fun k hk => by have := hlo k hk; omega
      have hD7 := RB.grownD hD6 hgr7 (by intro b off hn e e'; have := HDL.out b off hn e; have := hlo b e'; omega)
      have hs7 := Nat.le_trans hs6 hgr7.size
      have c27 := hb7.cell 2 rfl
      have x27 := hx7.cell 2 rfl
      have x47 := hx7.cell 4 rfl
      have x37 := hx7.cell 3 rfl
      refine hK _ _ (by simp [owed, left]; exact ⟨x27, c27⟩) ?_
      clear hK K
      try simp only [List.getElem_toArray, List.getElem_cons_succ, List.getElem_cons_zero, Act.put, List.setIfInBounds_toArray, List.set_cons_zero, List.set_cons_succ]
      iterate 1 (refine planE_pure (v := ?_) rfl (by rfl) (fun w' => ?_) ?_; rotate_left; (focus (simp only [List.getElem_toArray, List.getElem_cons_succ, List.getElem_cons_zero]; go_simp; try with_reducible rfl)); try simp only [List.getElem_toArray, List.getElem_cons_succ, List.getElem_cons_zero, Act.put, List.setIfInBounds_toArray, List.set_cons_zero, List.set_cons_succ])
      refine planE_end ?_
      have ho7' := ho7.base_le (base' := w.heap.size + 1) (by omega)
      have hq7' : Hid (q7 = q) := Lib.hid (by simpa using hq7.out)
      simp only [List.length_nil, Nat.zero_add] at hq71 hq72
      have hlo7 : ∀ k, (Value.slice A7 q7.length c7).ownBlock = some k → w.heap.size + 1 ≤ k := fun k hk => (ho7'.own_lt k hk).1
      clear hq7 hgr7 hlo hb6 hx6 hg6 hD6 hQ6 hO6 c26 x26 hbq hxq hgq hDq hQq c2 x2 hs6 ho7
      go_wp2_with (at_builtin; refine wp_appendB _ rfl (.tmp 105) (.tmp 107) rfl (w.heap.size + 1) A7 D c7 c q7 d rfl rfl ho7' hD7 (by omega) (by omega) ?_; intro p8 P8 cp8 w8 hp8 hp81 hp82 ho8 hgr8; have hb8 := hb7.grown hgr8 (by intro e'; have := hlo7 _ e'; omega); have hx8 := hx7.grown hgr8 (by intro e'; have := hlo7 _ e'; omega); have c28 := hb8.cell 2 rfl; have c18 := hb8.cell 1 rfl; have c08 := hb8.cell 0 rfl; have f28 := hb8.free 2; have f18 := hb8.free 1; have f08 := hb8.free 0; have x38 := hx8.cell 3 rfl; have k2 : ¬ (32768 : Int) < (p8.length : Int) := by omega)
      have hg8 := gb_own hg7 hgr8 fun k hk => by have := hlo7 k hk; omega
      have HP : Hid (p8 = q ++ d) := Lib.hid (by rw [hp8.out, hq7'.out])
      have ho8' := ho8.setCell (a := ⟨g, 2, none⟩) (by simp; omega) (.slice P8 p8.length cp8)

      refine bodyPost_ret (v := .tuple #[.int .i64 (p8.length : Int), .slice P8 p8.length cp8, .bool true, .int .i64 0]) (by simp [results, Try.results39, go_sem]) rfl ?_
      have hz : addG ji jt h q true d = ⟨(q ++ d).length, q ++ d, true, 0, 0, 0, []⟩ := by rw [addG, if_neg (by have := hkH.out; omega), if_neg (by omega), if_pos rfl]
      exact ⟨p8.length, p8, true, 0, 0, 0, [], P8, cp8, Lib.hid (by rw [hz, ← HP.out]), by omega, by simp, rfl, ⟨none, 0, (((hb8.setCell 2 _).setCell 0 _).setCell 1 _).setCell 2 _, OB.nil _ _⟩, (((ho8'.setCell (a := ⟨g, 0, none⟩) (by simp; omega) _).setCell (a := ⟨g, 1, none⟩) (by simp; omega) _).setCell (a := ⟨g, 2, none⟩) (by simp; omega) _).rb, gb_setCell (gb_setCell (gb_setCell (gb_setCell hg8 2 _) 0 _) 1 _) 2 _⟩
end Go.Proofs.Ytogcdbodlomgeaa
