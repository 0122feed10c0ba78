/- Contracts of the reference's writer: signed, hex, commanded, command, word, Act, Setting. -/
import Derived.Test.YtcinohmhhglpjaaDoorScrR
import Derived.Test.YtcinohmhhglpjaaDoorScrE
import Derived.Test.YtcinohmhhglpjaaDoorPlan
namespace Go.Proofs.YtcinohmhhglpjaaDoor
open Go.RowKit
open Go.Lib (decDigits)

theorem wp_region_plan_gen {P : Program} {ops : Array Oper} {Q : Exit → Act → World → Prop} {id : Nat} {a : Act} {w : World} (hm : P.follows .mixedOrders = true) (plan : List (Nat × Bool)) (hs : Region.noSelect ops = true)
    (hp : planB .any ops plan (Array.replicate ops.size false) = true) (hl : plan.length ≤ ops.size) (h : ∀ wq, wq = w.drew → wpPlan P ops (NoPanic Q) plan a wq) : (Code.region id ops true).wp P Q a w :=
  wp_region_plan hm plan hs hp hl (h _ rfl)
theorem belowN {B : Nat} {w w' : World} (h : Below B w w') (n : Nat) : Below B w (w'.drewN n) := ⟨h.os, h.tape, h.output, h.size, h.block⟩
theorem catE (x y : List UInt8) (a b c : Nat) (hx : x.length ≤ a) (hy : y.length ≤ b) (hc : a + b ≤ c) (h : c ≤ 9223372036854775807) :
    ∃ z : List UInt8, Hid (z = x ++ y) ∧ z.length ≤ c ∧ ∀ W, (Op.stringOp .add ⟨x.toArray⟩ ⟨y.toArray⟩).run Tryd.prog W = .ok (.string ⟨z.toArray⟩) W :=
  ⟨x ++ y, Lib.hid rfl, by simp; omega, fun W => concatB x y (by omega) W⟩

set_option maxRecDepth 20000 in
set_option maxHeartbeats 1000000 in
theorem refSigned (n : Int) (h0 : -9223372036854775808 ≤ n) (h1 : n ≤ 9223372036854775807) (w : World) :
    Calls Tryd.prog 34 #[.int .i64 n] w fun e w' => e = .returned (.string ⟨(Lib.itoa n).toArray⟩) ∧ Below w.heap.size w w' := by
  by_cases hn : n < 0
  · obtain ⟨u, rfl⟩ : ∃ u : Nat, n = -((u : Nat) : Int) := ⟨n.natAbs, by omega⟩
    have hu : 1 ≤ u ∧ u ≤ 9223372036854775808 := by omega
    obtain ⟨hu1, hu2⟩ := hu
    have hcat := concatB [45] (decDigits u) (by have := dec_len (u := u) (by omega); simp; omega)
    simp only [List.cons_append, List.nil_append] at hcat
    have C := Lib.hid (refDec u (by omega))
    have hw1 : IntKind.u64.wrap (-(u : Int)) = 18446744073709551616 - (u : Int) := by
      unfold IntKind.wrap
      simp [IntKind.bits, IntKind.signed]
      omega
    have hw2 : IntKind.u64.wrap (-(18446744073709551616 - (u : Int))) = (u : Int) := by
      unfold IntKind.wrap
      simp [IntKind.bits, IntKind.signed]
      omega
    go_enter Tryd.func34, Tryd.ntmps34
    go_wp2_with (go_at_call 35; refine (C.out _).mono ?_)
    rintro e w1 ⟨rfl, hb1⟩
    go_wp2_with fail
    go_ret
    exact ⟨by rw [Lib.itoa_neg u hu1]; rfl, hb1⟩
  · obtain ⟨u, rfl⟩ := Int.eq_ofNat_of_zero_le (show 0 ≤ n by omega)
    have C := Lib.hid (refDec u (by omega))
    have hw1 : IntKind.u64.wrap (u : Int) = (u : Int) := by
      unfold IntKind.wrap
      simp [IntKind.bits, IntKind.signed]
      omega
    have hu : (u : Int) ≤ 9223372036854775807 := h1
    clear h0 h1
    go_enter Tryd.func34, Tryd.ntmps34
    go_wp2_with (go_at_call 35; refine (C.out _).mono ?_)
    rintro e w1 rfl hb1
    go_wp2_with fail
    go_ret
    exact ⟨by rw [Lib.itoa_nonneg u]; rfl, hb1⟩

theorem fig_cut_fin : ∀ n : Fin 16, (⟨#[48, 49, 50, 51, 52, 53, 54, 55, 56, 57, 97, 98, 99, 100, 101, 102]⟩ : ByteArray).extract n.1 (n.1 + 1) = ⟨[fig n.1].toArray⟩ := by decide
theorem fig_cut {n m : Nat} (h : n < 16) (hm : m = n + 1) : (⟨#[48, 49, 50, 51, 52, 53, 54, 55, 56, 57, 97, 98, 99, 100, 101, 102]⟩ : ByteArray).extract n m = ⟨[fig n].toArray⟩ := by subst hm; exact fig_cut_fin ⟨n, h⟩
set_option maxRecDepth 20000 in
set_option maxHeartbeats 4000000 in
theorem refHex (l : List UInt8) (hl : l.length ≤ 64) (w : World) :
    Calls Tryd.prog 50 #[.string ⟨l.toArray⟩] w fun e w' => e = .returned (.string ⟨(120 :: hexs l).toArray⟩) ∧ Below w.heap.size w w' := by
  have hsz : (⟨l.toArray⟩ : ByteArray).size = l.length := by simp [ByteArray.size]
  go_enter Tryd.func50, Tryd.ntmps50
  go_wp2_with fail
  go_loopw [3, 4] (fun o i wr => ∃ (k : Nat) (L : List UInt8), k ≤ l.length ∧ i = .int .i64 (k : Int) ∧ o = .string ⟨L.toArray⟩ ∧ L.length ≤ 129 ∧ Hid (L = 120 :: hexs (l.take k)) ∧ Hid (Below w.heap.size w wr)) (fun _ i _ => l.length - (intOf i).toNat)
  case atStart => exact ⟨0, [120], Nat.zero_le _, rfl, rfl, by simp, Lib.hid rfl, Lib.hid (Below.refl _ _)⟩
  case round =>
    obtain ⟨k, L, hk, rfl, rfl, hL, hv, HB⟩ := hrel
    by_cases hlt : k < l.length
    · have hb := l[k].toNat_lt
      have HN : Hid (hexs (l.take (k + 1)) = hexs (l.take k) ++ [fig (l[k].toNat / 16), fig (l[k].toNat % 16)]) := Lib.hid (by rw [List.take_succ_eq_append_getElem hlt, hexs_snoc])
      have hix : (⟨l.toArray⟩ : ByteArray)[k]'(by rw [hsz]; exact hlt) = l[k] := rfl
      have h16 : l[k].toNat / 16 < 16 ∧ l[k].toNat % 16 < 16 := by omega
      obtain ⟨ha, hb'⟩ := h16
      obtain ⟨z1, e1, l1, r1⟩ := catE L [fig (l[k].toNat / 16)] 127 1 128 (by rw [hv.out, List.length_cons, hexs_len, List.length_take]; omega) (by simp) (by decide) (by decide)
      obtain ⟨z2, e2, l2, r2⟩ := catE z1 [fig (l[k].toNat % 16)] 128 1 129 l1 (by simp) (by decide) (by decide)
      have f1 := fig_cut ha rfl
      have f2 := fig_cut hb' rfl
      go_wp2_with fail
      go_quiet (fail)
      go_wp2_with fail
      go_roundw
      case rel => exact ⟨k + 1, z2, by omega, by go_num, by rfl, l2, Lib.hid (by rw [HN.out, e2.out, e1.out, hv.out]; simp), Lib.hid (belowN HB.out _)⟩

      case measure => simp [intOf]; omega
    · obtain rfl : k = l.length := by omega
      have HE : Hid (L = 120 :: hexs l) := Lib.hid (by rw [hv.out, List.take_of_length_le (Nat.le_refl _)])
      go_wp2_with fail
      go_ret
      exact ⟨by rw [← HE.out]; rfl, HB.out⟩

theorem refDecU (n : Int) (h0 : 0 ≤ n) (h1 : n ≤ 18446744073709551615) (w : World) :
    Calls Tryd.prog 35 #[.int .u64 n] w fun e w' => e = .returned (.string ⟨(udec n).toArray⟩) ∧ Below w.heap.size w w' := by
  obtain ⟨u, rfl⟩ := Int.eq_ofNat_of_zero_le h0
  rw [udec_nat]
  exact refDec u (by omega) w
set_option maxRecDepth 20000 in
set_option maxHeartbeats 8000000 in
theorem refCommand (c : Cm) (hc : c.wf) (hk : c.key.length ≤ 64) (w : World) :
    Calls Tryd.prog 36 #[.agg c.cells.toArray] w fun e w' => e = .returned (.string ⟨(tailw c.words).toArray⟩) ∧ Below w.heap.size w w' := by
  obtain ⟨h1, h2, h3, h4, h5, h6, h7, h8, h9, h10, h11, h12, h13⟩ := hc
  have hB : Below w.heap.size w (w.alloc (.cells #[.int .u64 c.ses, .int .u64 c.seq, .int .i64 c.op, .string ⟨c.key.toArray⟩, .int .i64 c.amount, .int .i64 c.span, .int .u64 c.lease] 33)) := (Below.refl _ _).alloc (Nat.le_refl _) _
  unfold Cm.cells
  go_enter Tryd.func36, Tryd.ntmps36
  go_wp2_with fail
  refine wp_region_plan_gen (by kernel_rfl) [(0, true), (1, true), (5, true), (6, true), (10, true), (11, true), (15, true), (16, true), (20, true), (21, true), (25, true), (26, true), (30, true), (31, true), (2, false), (3, true), (4, true), (7, false), (8, true), (9, true), (12, false), (13, true), (14, true), (17, false), (18, true), (19, true), (22, false), (23, true), (24, true), (27, false), (28, true), (29, true), (32, false), (33, true), (34, true)] (by kernel_rfl) (by kernel_rfl) (by decide) ?_
  intro x0 hx0
  have B0 : Hid (Below (w.alloc (.cells #[.int .u64 c.ses, .int .u64 c.seq, .int .i64 c.op, .string ⟨c.key.toArray⟩, .int .i64 c.amount, .int .i64 c.span, .int .u64 c.lease] 33)).heap.size (w.alloc (.cells #[.int .u64 c.ses, .int .u64 c.seq, .int .i64 c.op, .string ⟨c.key.toArray⟩, .int .i64 c.amount, .int .i64 c.span, .int .u64 c.lease] 33)) x0) := Lib.hid (by rw [hx0]; exact (Below.refl _ _).drew)
  have ld0 : ∀ w', Ext x0 w' → w'.cell? ⟨w.heap.size, 0, none⟩ = some (.int .u64 c.ses) := fun w' hw => (hw.cell (by rw [hx0]; simp)).trans (by rw [hx0]; go_simp)
  have ld1 : ∀ w', Ext x0 w' → w'.cell? ⟨w.heap.size, 1, none⟩ = some (.int .u64 c.seq) := fun w' hw => (hw.cell (by rw [hx0]; simp)).trans (by rw [hx0]; go_simp)
  have ld2 : ∀ w', Ext x0 w' → w'.cell? ⟨w.heap.size, 2, none⟩ = some (.int .i64 c.op) := fun w' hw => (hw.cell (by rw [hx0]; simp)).trans (by rw [hx0]; go_simp)
  have ld3 : ∀ w', Ext x0 w' → w'.cell? ⟨w.heap.size, 3, none⟩ = some (.string ⟨c.key.toArray⟩) := fun w' hw => (hw.cell (by rw [hx0]; simp)).trans (by rw [hx0]; go_simp)
  have ld4 : ∀ w', Ext x0 w' → w'.cell? ⟨w.heap.size, 4, none⟩ = some (.int .i64 c.amount) := fun w' hw => (hw.cell (by rw [hx0]; simp)).trans (by rw [hx0]; go_simp)
  have ld5 : ∀ w', Ext x0 w' → w'.cell? ⟨w.heap.size, 5, none⟩ = some (.int .i64 c.span) := fun w' hw => (hw.cell (by rw [hx0]; simp)).trans (by rw [hx0]; go_simp)
  have ld6 : ∀ w', Ext x0 w' → w'.cell? ⟨w.heap.size, 6, none⟩ = some (.int .u64 c.lease) := fun w' hw => (hw.cell (by rw [hx0]; simp)).trans (by rw [hx0]; go_simp)
  clear hx0
  iterate 14 (refine plan_pure (v := ?_) rfl (by rfl) (fun w' hw' => ?_) ?_; rotate_left; (focus (simp only [List.getElem_toArray, List.getElem_cons_succ, List.getElem_cons_zero]; go_simp; try with_reducible rfl)); try simp only [List.getElem_toArray, List.getElem_cons_succ, List.getElem_cons_zero, Act.put, List.setIfInBounds_toArray, List.set_cons_zero, List.set_cons_succ])
  refine plan_call rfl (by rfl) (fun K hK => ?_)
  go_simp
  refine (refDecU c.ses h1 h2 x0).mono ?_
  rintro e x1 ⟨rfl, hb1⟩
  refine hK _ _ hb1 ?_
  clear hK K
  have B1 : Hid (Below (w.alloc (.cells #[.int .u64 c.ses, .int .u64 c.seq, .int .i64 c.op, .string ⟨c.key.toArray⟩, .int .i64 c.amount, .int .i64 c.span, .int .u64 c.lease] 33)).heap.size (w.alloc (.cells #[.int .u64 c.ses, .int .u64 c.seq, .int .i64 c.op, .string ⟨c.key.toArray⟩, .int .i64 c.amount, .int .i64 c.span, .int .u64 c.lease] 33)) x1) := Lib.hid (B0.out.trans (hb1.mono B0.out.size))
  replace ld0 := fun w' (h : Ext x1 w') => ld0 w' (Ext.trans hb1 h)
  replace ld1 := fun w' (h : Ext x1 w') => ld1 w' (Ext.trans hb1 h)
  replace ld2 := fun w' (h : Ext x1 w') => ld2 w' (Ext.trans hb1 h)
  replace ld3 := fun w' (h : Ext x1 w') => ld3 w' (Ext.trans hb1 h)
  replace ld4 := fun w' (h : Ext x1 w') => ld4 w' (Ext.trans hb1 h)
  replace ld5 := fun w' (h : Ext x1 w') => ld5 w' (Ext.trans hb1 h)
  replace ld6 := fun w' (h : Ext x1 w') => ld6 w' (Ext.trans hb1 h)
  clear hb1
  try simp only [List.getElem_toArray, List.getElem_cons_succ, List.getElem_cons_zero, Act.put, List.setIfInBounds_toArray, List.set_cons_zero, List.set_cons_succ]
  obtain ⟨z1, e1, l1, r1⟩ := catE [32] (udec c.ses) 1 20 21 (by decide) (udec_len h2) (by decide) (by decide)
  obtain ⟨z2, e2, l2, r2⟩ := catE z1 [32] 21 1 22 l1 (by decide) (by decide) (by decide)
  iterate 2 (refine plan_pure (v := ?_) rfl (by rfl) (fun w' hw' => ?_) ?_; rotate_left; (focus (simp only [List.getElem_toArray, List.getElem_cons_succ, List.getElem_cons_zero]; go_simp; try with_reducible rfl)); try simp only [List.getElem_toArray, List.getElem_cons_succ, List.getElem_cons_zero, Act.put, List.setIfInBounds_toArray, List.set_cons_zero, List.set_cons_succ])
  refine plan_call rfl (by rfl) (fun K hK => ?_)
  go_simp
  refine (refDecU c.seq h3 h4 x1).mono ?_
  rintro e x2 ⟨rfl, hb2⟩
  refine hK _ _ hb2 ?_
  clear hK K
  have B2 : Hid (Below (w.alloc (.cells #[.int .u64 c.ses, .int .u64 c.seq, .int .i64 c.op, .string ⟨c.key.toArray⟩, .int .i64 c.amount, .int .i64 c.span, .int .u64 c.lease] 33)).heap.size (w.alloc (.cells #[.int .u64 c.ses, .int .u64 c.seq, .int .i64 c.op, .string ⟨c.key.toArray⟩, .int .i64 c.amount, .int .i64 c.span, .int .u64 c.lease] 33)) x2) := Lib.hid (B1.out.trans (hb2.mono B1.out.size))
  replace ld0 := fun w' (h : Ext x2 w') => ld0 w' (Ext.trans hb2 h)
  replace ld1 := fun w' (h : Ext x2 w') => ld1 w' (Ext.trans hb2 h)
  replace ld2 := fun w' (h : Ext x2 w') => ld2 w' (Ext.trans hb2 h)
  replace ld3 := fun w' (h : Ext x2 w') => ld3 w' (Ext.trans hb2 h)
  replace ld4 := fun w' (h : Ext x2 w') => ld4 w' (Ext.trans hb2 h)
  replace ld5 := fun w' (h : Ext x2 w') => ld5 w' (Ext.trans hb2 h)
  replace ld6 := fun w' (h : Ext x2 w') => ld6 w' (Ext.trans hb2 h)
  clear hb2
  try simp only [List.getElem_toArray, List.getElem_cons_succ, List.getElem_cons_zero, Act.put, List.setIfInBounds_toArray, List.set_cons_zero, List.set_cons_succ]
  obtain ⟨z3, e3, l3, r3⟩ := catE z2 (udec c.seq) 22 20 42 l2 (udec_len h4) (by decide) (by decide)
  obtain ⟨z4, e4, l4, r4⟩ := catE z3 [32] 42 1 43 l3 (by decide) (by decide) (by decide)
  iterate 2 (refine plan_pure (v := ?_) rfl (by rfl) (fun w' hw' => ?_) ?_; rotate_left; (focus (simp only [List.getElem_toArray, List.getElem_cons_succ, List.getElem_cons_zero]; go_simp; try with_reducible rfl)); try simp only [List.getElem_toArray, List.getElem_cons_succ, List.getElem_cons_zero, Act.put, List.setIfInBounds_toArray, List.set_cons_zero, List.set_cons_succ])
  refine plan_call rfl (by rfl) (fun K hK => ?_)
  go_simp
  refine (refSigned c.op h5 h6 x2).mono ?_
  rintro e x3 ⟨rfl, hb3⟩
  refine hK _ _ hb3 ?_
  clear hK K
  have B3 : Hid (Below (w.alloc (.cells #[.int .u64 c.ses, .int .u64 c.seq, .int .i64 c.op, .string ⟨c.key.toArray⟩, .int .i64 c.amount, .int .i64 c.span, .int .u64 c.lease] 33)).heap.size (w.alloc (.cells #[.int .u64 c.ses, .int .u64 c.seq, .int .i64 c.op, .string ⟨c.key.toArray⟩, .int .i64 c.amount, .int .i64 c.span, .int .u64 c.lease] 33)) x3) := Lib.hid (B2.out.trans (hb3.mono B2.out.size))
  replace ld0 := fun w' (h : Ext x3 w') => ld0 w' (Ext.trans hb3 h)
  replace ld1 := fun w' (h : Ext x3 w') => ld1 w' (Ext.trans hb3 h)
  replace ld2 := fun w' (h : Ext x3 w') => ld2 w' (Ext.trans hb3 h)
  replace ld3 := fun w' (h : Ext x3 w') => ld3 w' (Ext.trans hb3 h)
  replace ld4 := fun w' (h : Ext x3 w') => ld4 w' (Ext.trans hb3 h)
  replace ld5 := fun w' (h : Ext x3 w') => ld5 w' (Ext.trans hb3 h)
  replace ld6 := fun w' (h : Ext x3 w') => ld6 w' (Ext.trans hb3 h)
  clear hb3
  try simp only [List.getElem_toArray, List.getElem_cons_succ, List.getElem_cons_zero, Act.put, List.setIfInBounds_toArray, List.set_cons_zero, List.set_cons_succ]
  obtain ⟨z5, e5, l5, r5⟩ := catE z4 (Lib.itoa c.op) 43 21 64 l4 (itoa_len h5 h6) (by decide) (by decide)
  obtain ⟨z6, e6, l6, r6⟩ := catE z5 [32] 64 1 65 l5 (by decide) (by decide) (by decide)
  iterate 2 (refine plan_pure (v := ?_) rfl (by rfl) (fun w' hw' => ?_) ?_; rotate_left; (focus (simp only [List.getElem_toArray, List.getElem_cons_succ, List.getElem_cons_zero]; go_simp; try with_reducible rfl)); try simp only [List.getElem_toArray, List.getElem_cons_succ, List.getElem_cons_zero, Act.put, List.setIfInBounds_toArray, List.set_cons_zero, List.set_cons_succ])
  refine plan_call rfl (by rfl) (fun K hK => ?_)
  go_simp
  refine (refHex c.key hk x3).mono ?_
  rintro e x4 ⟨rfl, hb4⟩
  refine hK _ _ hb4 ?_
  clear hK K
  have B4 : Hid (Below (w.alloc (.cells #[.int .u64 c.ses, .int .u64 c.seq, .int .i64 c.op, .string ⟨c.key.toArray⟩, .int .i64 c.amount, .int .i64 c.span, .int .u64 c.lease] 33)).heap.size (w.alloc (.cells #[.int .u64 c.ses, .int .u64 c.seq, .int .i64 c.op, .string ⟨c.key.toArray⟩, .int .i64 c.amount, .int .i64 c.span, .int .u64 c.lease] 33)) x4) := Lib.hid (B3.out.trans (hb4.mono B3.out.size))
  replace ld0 := fun w' (h : Ext x4 w') => ld0 w' (Ext.trans hb4 h)
  replace ld1 := fun w' (h : Ext x4 w') => ld1 w' (Ext.trans hb4 h)
  replace ld2 := fun w' (h : Ext x4 w') => ld2 w' (Ext.trans hb4 h)
  replace ld3 := fun w' (h : Ext x4 w') => ld3 w' (Ext.trans hb4 h)
  replace ld4 := fun w' (h : Ext x4 w') => ld4 w' (Ext.trans hb4 h)
  replace ld5 := fun w' (h : Ext x4 w') => ld5 w' (Ext.trans hb4 h)
  replace ld6 := fun w' (h : Ext x4 w') => ld6 w' (Ext.trans hb4 h)
  clear hb4
  try simp only [List.getElem_toArray, List.getElem_cons_succ, List.getElem_cons_zero, Act.put, List.setIfInBounds_toArray, List.set_cons_zero, List.set_cons_succ]
  obtain ⟨z7, e7, l7, r7⟩ := catE z6 (120 :: hexs c.key) 65 129 194 l6 (by rw [List.length_cons, hexs_len]; omega) (by decide) (by decide)
  obtain ⟨z8, e8, l8, r8⟩ := catE z7 [32] 194 1 195 l7 (by decide) (by decide) (by decide)
  iterate 2 (refine plan_pure (v := ?_) rfl (by rfl) (fun w' hw' => ?_) ?_; rotate_left; (focus (simp only [List.getElem_toArray, List.getElem_cons_succ, List.getElem_cons_zero]; go_simp; try with_reducible rfl)); try simp only [List.getElem_toArray, List.getElem_cons_succ, List.getElem_cons_zero, Act.put, List.setIfInBounds_toArray, List.set_cons_zero, List.set_cons_succ])
  refine plan_call rfl (by rfl) (fun K hK => ?_)
  go_simp
  refine (refSigned c.amount h7 h8 x4).mono ?_
  rintro e x5 ⟨rfl, hb5⟩
  refine hK _ _ hb5 ?_
  clear hK K
  have B5 : Hid (Below (w.alloc (.cells #[.int .u64 c.ses, .int .u64 c.seq, .int .i64 c.op, .string ⟨c.key.toArray⟩, .int .i64 c.amount, .int .i64 c.span, .int .u64 c.lease] 33)).heap.size (w.alloc (.cells #[.int .u64 c.ses, .int .u64 c.seq, .int .i64 c.op, .string ⟨c.key.toArray⟩, .int .i64 c.amount, .int .i64 c.span, .int .u64 c.lease] 33)) x5) := Lib.hid (B4.out.trans (hb5.mono B4.out.size))
  replace ld0 := fun w' (h : Ext x5 w') => ld0 w' (Ext.trans hb5 h)
  replace ld1 := fun w' (h : Ext x5 w') => ld1 w' (Ext.trans hb5 h)
  replace ld2 := fun w' (h : Ext x5 w') => ld2 w' (Ext.trans hb5 h)
  replace ld3 := fun w' (h : Ext x5 w') => ld3 w' (Ext.trans hb5 h)
  replace ld4 := fun w' (h : Ext x5 w') => ld4 w' (Ext.trans hb5 h)
  replace ld5 := fun w' (h : Ext x5 w') => ld5 w' (Ext.trans hb5 h)
  replace ld6 := fun w' (h : Ext x5 w') => ld6 w' (Ext.trans hb5 h)
  clear hb5
  try simp only [List.getElem_toArray, List.getElem_cons_succ, List.getElem_cons_zero, Act.put, List.setIfInBounds_toArray, List.set_cons_zero, List.set_cons_succ]
  obtain ⟨z9, e9, l9, r9⟩ := catE z8 (Lib.itoa c.amount) 195 21 216 l8 (itoa_len h7 h8) (by decide) (by decide)
  obtain ⟨z10, e10, l10, r10⟩ := catE z9 [32] 216 1 217 l9 (by decide) (by decide) (by decide)
  iterate 2 (refine plan_pure (v := ?_) rfl (by rfl) (fun w' hw' => ?_) ?_; rotate_left; (focus (simp only [List.getElem_toArray, List.getElem_cons_succ, List.getElem_cons_zero]; go_simp; try with_reducible rfl)); try simp only [List.getElem_toArray, List.getElem_cons_succ, List.getElem_cons_zero, Act.put, List.setIfInBounds_toArray, List.set_cons_zero, List.set_cons_succ])
  refine plan_call rfl (by rfl) (fun K hK => ?_)
  go_simp
  refine (refSigned c.span h9 h10 x5).mono ?_
  rintro e x6 ⟨rfl, hb6⟩
  refine hK _ _ hb6 ?_
  clear hK K
  have B6 : Hid (Below (w.alloc (.cells #[.int .u64 c.ses, .int .u64 c.seq, .int .i64 c.op, .string ⟨c.key.toArray⟩, .int .i64 c.amount, .int .i64 c.span, .int .u64 c.lease] 33)).heap.size (w.alloc (.cells #[.int .u64 c.ses, .int .u64 c.seq, .int .i64 c.op, .string ⟨c.key.toArray⟩, .int .i64 c.amount, .int .i64 c.span, .int .u64 c.lease] 33)) x6) := Lib.hid (B5.out.trans (hb6.mono B5.out.size))
  replace ld0 := fun w' (h : Ext x6 w') => ld0 w' (Ext.trans hb6 h)
  replace ld1 := fun w' (h : Ext x6 w') => ld1 w' (Ext.trans hb6 h)
  replace ld2 := fun w' (h : Ext x6 w') => ld2 w' (Ext.trans hb6 h)
  replace ld3 := fun w' (h : Ext x6 w') => ld3 w' (Ext.trans hb6 h)
  replace ld4 := fun w' (h : Ext x6 w') => ld4 w' (Ext.trans hb6 h)
  replace ld5 := fun w' (h : Ext x6 w') => ld5 w' (Ext.trans hb6 h)
  replace ld6 := fun w' (h : Ext x6 w') => ld6 w' (Ext.trans hb6 h)
  clear hb6
  try simp only [List.getElem_toArray, List.getElem_cons_succ, List.getElem_cons_zero, Act.put, List.setIfInBounds_toArray, List.set_cons_zero, List.set_cons_succ]
  obtain ⟨z11, e11, l11, r11⟩ := catE z10 (Lib.itoa c.span) 217 21 238 l10 (itoa_len h9 h10) (by decide) (by decide)
  obtain ⟨z12, e12, l12, r12⟩ := catE z11 [32] 238 1 239 l11 (by decide) (by decide) (by decide)
  iterate 2 (refine plan_pure (v := ?_) rfl (by rfl) (fun w' hw' => ?_) ?_; rotate_left; (focus (simp only [List.getElem_toArray, List.getElem_cons_succ, List.getElem_cons_zero]; go_simp; try with_reducible rfl)); try simp only [List.getElem_toArray, List.getElem_cons_succ, List.getElem_cons_zero, Act.put, List.setIfInBounds_toArray, List.set_cons_zero, List.set_cons_succ])
  refine plan_call rfl (by rfl) (fun K hK => ?_)
  go_simp
  refine (refDecU c.lease h11 h12 x6).mono ?_
  rintro e x7 ⟨rfl, hb7⟩
  refine hK _ _ hb7 ?_
  clear hK K
  have B7 : Hid (Below (w.alloc (.cells #[.int .u64 c.ses, .int .u64 c.seq, .int .i64 c.op, .string ⟨c.key.toArray⟩, .int .i64 c.amount, .int .i64 c.span, .int .u64 c.lease] 33)).heap.size (w.alloc (.cells #[.int .u64 c.ses, .int .u64 c.seq, .int .i64 c.op, .string ⟨c.key.toArray⟩, .int .i64 c.amount, .int .i64 c.span, .int .u64 c.lease] 33)) x7) := Lib.hid (B6.out.trans (hb7.mono B6.out.size))
  replace ld0 := fun w' (h : Ext x7 w') => ld0 w' (Ext.trans hb7 h)
  replace ld1 := fun w' (h : Ext x7 w') => ld1 w' (Ext.trans hb7 h)
  replace ld2 := fun w' (h : Ext x7 w') => ld2 w' (Ext.trans hb7 h)
  replace ld3 := fun w' (h : Ext x7 w') => ld3 w' (Ext.trans hb7 h)
  replace ld4 := fun w' (h : Ext x7 w') => ld4 w' (Ext.trans hb7 h)
  replace ld5 := fun w' (h : Ext x7 w') => ld5 w' (Ext.trans hb7 h)
  replace ld6 := fun w' (h : Ext x7 w') => ld6 w' (Ext.trans hb7 h)
  clear hb7
  try simp only [List.getElem_toArray, List.getElem_cons_succ, List.getElem_cons_zero, Act.put, List.setIfInBounds_toArray, List.set_cons_zero, List.set_cons_succ]
  obtain ⟨z13, e13, l13, r13⟩ := catE z12 (udec c.lease) 239 20 259 l12 (udec_len h12) (by decide) (by decide)
  iterate 2 (refine plan_pure (v := ?_) rfl (by rfl) (fun w' hw' => ?_) ?_; rotate_left; (focus (simp only [List.getElem_toArray, List.getElem_cons_succ, List.getElem_cons_zero]; go_simp; try with_reducible rfl)); try simp only [List.getElem_toArray, List.getElem_cons_succ, List.getElem_cons_zero, Act.put, List.setIfInBounds_toArray, List.set_cons_zero, List.set_cons_succ])
  refine plan_end ?_
  go_wp2_with fail
  go_ret
  exact ⟨by rw [e13.out, e12.out, e11.out, e10.out, e9.out, e8.out, e7.out, e6.out, e5.out, e4.out, e3.out, e2.out, e1.out]; simp [tailw, Cm.words], hB.trans (B7.out.mono hB.size)⟩

set_option maxRecDepth 20000 in
set_option maxHeartbeats 4000000 in
theorem refCommanded (c : Cm) (hw : c.wf) (w : World) :
    Calls Tryd.prog 33 #[.agg c.cells.toArray] w fun e w' => e = .returned (.bool c.ok) ∧ Below w.heap.size w w' := by
  have hkl := hw.keyl
  have ho0 := hw.op0
  have ho1 := hw.op1
  unfold Cm.cells
  by_cases h1 : c.key.length ≤ 64
  · by_cases h2 : 0 ≤ c.op
    · by_cases h3 : c.op ≤ 5
      · have hok : Hid (c.ok = true) := Lib.hid (by simp [Cm.ok, h1, h2, h3])
        go_enter Tryd.func33, Tryd.ntmps33
        go_wp2_with fail
        go_ret
        exact ⟨by rw [hok.out]; rfl, (Below.refl _ _).alloc (Nat.le_refl _) _⟩
      · have hok : Hid (c.ok = false) := Lib.hid (by simp [Cm.ok, h1, h2, h3])
        go_enter Tryd.func33, Tryd.ntmps33
        go_wp2_with fail
        go_ret
        exact ⟨by rw [hok.out]; rfl, (Below.refl _ _).alloc (Nat.le_refl _) _⟩
    · have hok : Hid (c.ok = false) := Lib.hid (by simp [Cm.ok, h1, h2])
      go_enter Tryd.func33, Tryd.ntmps33
      go_wp2_with fail
      go_ret
      exact ⟨by rw [hok.out]; rfl, (Below.refl _ _).alloc (Nat.le_refl _) _⟩
  · have hok : Hid (c.ok = false) := Lib.hid (by simp [Cm.ok, h1])
    go_enter Tryd.func33, Tryd.ntmps33
    go_wp2_with fail
    go_ret
    exact ⟨by rw [hok.out]; rfl, (Below.refl _ _).alloc (Nat.le_refl _) _⟩

def wordOf (k : Int) : List UInt8 := if 1 ≤ k ∧ k ≤ 18 then kindWord k.toNat else []
theorem kindCells : ∀ (n : Nat), n < 19 → (#[.string ⟨#[]⟩, .string ⟨#[116, 105, 99, 107]⟩, .string ⟨#[112, 97, 115, 115]⟩, .string ⟨#[115, 101, 110, 100]⟩, .string ⟨#[100, 114, 111, 112]⟩, .string ⟨#[116, 119, 105, 110]⟩, .string ⟨#[99, 117, 116]⟩, .string ⟨#[104, 101, 97, 108]⟩, .string ⟨#[102, 117, 115, 101]⟩, .string ⟨#[115, 116, 111, 112]⟩, .string ⟨#[115, 116, 97, 114, 116]⟩, .string ⟨#[97, 115, 107]⟩, .string ⟨#[108, 111, 111, 107]⟩, .string ⟨#[97, 103, 97, 105, 110]⟩, .string ⟨#[99, 111, 110, 102]⟩, .string ⟨#[103, 105, 118, 101]⟩, .string ⟨#[115, 104, 114, 105, 110, 107]⟩, .string ⟨#[97, 100, 109, 105, 116]⟩, .string ⟨#[114, 111, 111, 109]⟩] : Array Value)[n]? = some (.string ⟨(kindWord n).toArray⟩)
  | 0, _ => rfl | 1, _ => rfl | 2, _ => rfl | 3, _ => rfl | 4, _ => rfl | 5, _ => rfl | 6, _ => rfl | 7, _ => rfl | 8, _ => rfl | 9, _ => rfl | 10, _ => rfl | 11, _ => rfl | 12, _ => rfl | 13, _ => rfl | 14, _ => rfl | 15, _ => rfl | 16, _ => rfl | 17, _ => rfl | 18, _ => rfl
  | n + 19, h => by omega
set_option maxRecDepth 20000 in
set_option maxHeartbeats 4000000 in
theorem refWord (k : Int) (h0 : -9223372036854775808 ≤ k) (h1 : k ≤ 9223372036854775807) (w : World) :
    Calls Tryd.prog 32 #[.int .i64 k] w fun e w' => e = .returned (.string ⟨(wordOf k).toArray⟩) ∧ Below w.heap.size w w' := by
  by_cases hk : 1 ≤ k ∧ k ≤ 18
  · have HW : Hid (wordOf k = kindWord k.toNat) := Lib.hid (if_pos hk)
    obtain ⟨hk1, hk2⟩ := hk
    obtain ⟨n, rfl⟩ := Int.eq_ofNat_of_zero_le (show 0 ≤ k by omega)
    have hcell := (World.cell?_alloc_new (w := w) _ 9 n).trans (kindCells n (by omega))
    go_enter Tryd.func32, Tryd.ntmps32
    go_wp2_with fail
    go_ret
    exact ⟨by rw [HW.out]; rfl, (Below.refl _ _).alloc (Nat.le_refl _) _⟩
  · have HW : Hid (wordOf k = []) := Lib.hid (if_neg hk)
    by_cases hk1 : k < 1
    · go_enter Tryd.func32, Tryd.ntmps32
      go_wp2_with fail
      go_ret
      exact ⟨by rw [HW.out]; rfl, (Below.refl _ _).alloc (Nat.le_refl _) _⟩
    · have hk2 : 18 < k := by omega
      clear hk
      go_enter Tryd.func32, Tryd.ntmps32
      go_wp2_with fail
      go_ret
      exact ⟨by rw [HW.out]; rfl, (Below.refl _ _).alloc (Nat.le_refl _) _⟩
end Go.Proofs.YtcinohmhhglpjaaDoor
