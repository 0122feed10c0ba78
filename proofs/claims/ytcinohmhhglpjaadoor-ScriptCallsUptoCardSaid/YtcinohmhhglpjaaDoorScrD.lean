/- Contracts: codec.Hex; a key's word; a command's. -/
import Derived.Test.YtcinohmhhglpjaaDoorScrC
import Derived.Test.YtcinohmhhglpjaaDoorOpApp
import Derived.Test.YtcinohmhhglpjaaDoorVals
import Derived.Test.YtcinohmhhglpjaaDoorPlanE
import Derived.Test.YtcinohmhhglpjaaDoorStrB
import Derived.Laws.BitsAllLaws
namespace Go.Proofs.YtcinohmhhglpjaaDoor
open Go.RowKit

theorem fig_fin : ∀ n : Fin 16, (⟨#[48, 49, 50, 51, 52, 53, 54, 55, 56, 57, 97, 98, 99, 100, 101, 102]⟩ : ByteArray)[n.1]'n.2 = fig n.1 := by decide
theorem fig_at (n : Nat) (h : n < (⟨#[48, 49, 50, 51, 52, 53, 54, 55, 56, 57, 97, 98, 99, 100, 101, 102]⟩ : ByteArray).size) : (⟨#[48, 49, 50, 51, 52, 53, 54, 55, 56, 57, 97, 98, 99, 100, 101, 102]⟩ : ByteArray)[n]'h = fig n := fig_fin ⟨n, h⟩
theorem rb_two (w : World) (x y : UInt8) {V U : Int} (h : V = (x.toNat : Int)) (k : U = (y.toNat : Int)) : RB (w.alloc (.cells #[.int .u8 V, .int .u8 U] 5)) (some ⟨w.heap.size, 0, none⟩) [x, y] := by
  subst h k
  exact RB.of_rv (by simpa [bcells] using RV.lit w [.int .u8 (x.toNat : Int), .int .u8 (y.toNat : Int)] 5 (0, 0))

theorem OB.gb {w0 w w' : World} {base c : Nat} {A : Option Addr} {l : List UInt8} (hg : w.grownBy w' (Value.slice A l.length c).ownBlock) (h : OB w base A c l) (hb : Below base w0 w) (hB : base ≤ w.heap.size) : Below base w0 w' :=
  hb.grown hg hB (fun k hk => (h.own_lt k hk).1)
set_option maxRecDepth 20000 in
set_option maxHeartbeats 4000000 in
theorem hexC (A : Option Addr) (c : Nat) (l : List UInt8) (w : World) (h : RB w A l) (hl : l.length ≤ 64) :
    Calls Tryd.prog 66 #[.slice A l.length c] w fun e w' => e = .returned (.string ⟨(hexs l).toArray⟩) ∧ Below w.heap.size w w' := by
  have H := Lib.hid h
  clear h
  go_enter Tryd.func66, Tryd.ntmps66
  go_wp2_with fail
  go_loopw [3, 8] (fun o i wr => ∃ (k : Nat) (A' : Option Addr) (c' : Nat) (L : List UInt8), k ≤ l.length ∧ i = .int .i64 (k : Int) ∧ o = .slice A' L.length c' ∧ L.length ≤ 128 ∧ Hid (L = hexs (l.take k)) ∧ Hid (OB wr w.heap.size A' c' L) ∧ Hid (Below w.heap.size w wr)) (fun _ i _ => l.length - (intOf i).toNat)
  case atStart => exact ⟨0, none, 0, [], Nat.zero_le _, rfl, rfl, by simp, Lib.hid rfl, Lib.hid (OB.nil _ _), Lib.hid (Below.refl _ _)⟩
  case round =>
    obtain ⟨k, A', c', L, hk, rfl, rfl, hL, hv, HO, HB⟩ := hrel
    by_cases hlt : k < l.length
    · obtain ⟨b, off, rfl, hb, c1⟩ := (H.out.below HB.out).cell hlt
      have HN : Hid (hexs (l.take (k + 1)) = hexs (l.take k) ++ [fig (l[k].toNat / 16), fig (l[k].toNat % 16)]) := Lib.hid (by rw [List.take_succ_eq_append_getElem hlt, hexs_snoc])
      have hL2 : L.length + 2 ≤ 128 := by rw [hv.out, hexs_len, List.length_take]; omega
      have hx := l[k].toNat_lt
      generalize l[k].toNat = x at *
      have hxa : bits BinOp.and IntKind.u8 (x : Int) 15 = (x : Int) % 16 := u8_and15 _ (by omega) (by omega)
      have hx0 : 0 ≤ bits BinOp.and IntKind.u8 (x : Int) 15 ∧ bits BinOp.and IntKind.u8 (x : Int) 15 < 16 := by omega
      have HXA := Lib.hid hxa
      clear hxa
      obtain ⟨hx01, hx02⟩ := hx0
      go_wp2_with fail
      refine wp_region_planE_gen (by kernel_rfl) [(0, none), (1, none), (2, none), (3, none), (4, none), (5, none), (6, none), (7, some [3, 6]), (8, some [0]), (9, none)] (by kernel_rfl) (by kernel_rfl) (by decide) ?_
      intro wq hwq
      have hbq : Below wr.heap.size wr wq := by rw [hwq]; exact (Below.refl _ _).drew
      have HOq := Lib.hid (HO.out.below hbq)
      have HBq := Lib.hid (HB.out.trans (hbq.mono HB.out.size))
      clear hwq
      iterate 7 (refine planE_pure (v := ?_) rfl (by rfl) (fun w' => ?_) ?_; rotate_left; (focus (simp only [List.getElem_toArray, List.getElem_cons_succ, List.getElem_cons_zero]; go_simp; first | with_reducible rfl | (simp (disch := omega) only [if_pos, if_neg, dif_pos, Result.andThen_ok]; try with_reducible rfl) | skip)); try simp only [List.getElem_toArray, List.getElem_cons_succ, List.getElem_cons_zero, Act.put, List.setIfInBounds_toArray, List.set_cons_zero, List.set_cons_succ])
      refine planE_eff rfl (by rfl) (fun K hK => ?_)
      go_simp
      skip
      refine hK _ _ (by simp [owed, left] <;> (and_intros <;> first | trivial | assumption)) ?_
      clear hK K
      try simp only [List.getElem_toArray, List.getElem_cons_succ, List.getElem_cons_zero, Act.put, List.setIfInBounds_toArray, List.set_cons_zero, List.set_cons_succ]
      refine planE_eff rfl (by rfl) (fun K hK => ?_)
      refine op_appendB _ _ _ rfl w.heap.size A' (some ⟨wq.heap.size, 0, none⟩) c' 2 L [fig (x / 16), fig (x % 16)] rfl rfl (HOq.out.alloc _) (rb_two wq (fig (x / 16)) (fig (x % 16)) ?v1 ?v2) (by simp; omega) (by have := HBq.out.size; simp; omega) ?_
      case v1 => rw [fig_at, show ((x : Int) / 16).toNat = x / 16 by omega]
      case v2 => rw [fig_at, HXA.out, show ((x : Int) % 16).toNat = x % 16 by omega]
      intro k2 A2 c2 w2 hk2 hk2a hk2b HO2 hg2
      have HB3 : Hid (Below w.heap.size w w2) := Lib.hid (OB.gb hg2 (HOq.out.alloc _) (HBq.out.alloc (by have := HBq.out.size; omega) _) (by have := HBq.out.size; simp; omega))
      clear hg2
      refine hK _ _ (by simp [owed, left] <;> (and_intros <;> first | trivial | assumption)) ?_
      clear hK K
      try simp only [List.getElem_toArray, List.getElem_cons_succ, List.getElem_cons_zero, Act.put, List.setIfInBounds_toArray, List.set_cons_zero, List.set_cons_succ]
      iterate 1 (refine planE_pure (v := ?_) rfl (by rfl) (fun w' => ?_) ?_; rotate_left; (focus (simp only [List.getElem_toArray, List.getElem_cons_succ, List.getElem_cons_zero]; go_simp; first | with_reducible rfl | (simp (disch := omega) only [if_pos, if_neg, dif_pos, Result.andThen_ok]; try with_reducible rfl) | skip)); try simp only [List.getElem_toArray, List.getElem_cons_succ, List.getElem_cons_zero, Act.put, List.setIfInBounds_toArray, List.set_cons_zero, List.set_cons_succ])
      refine planE_end ?_
      go_wp2_with fail
      go_roundw
      case rel => exact ⟨k + 1, A2, c2, k2, by omega, by go_num, rfl, by simp at hk2a; omega, Lib.hid (by rw [HN.out, hk2.out, hv.out]), Lib.hid HO2, HB3⟩
      case measure => simp [intOf]; omega
    · obtain rfl : k = l.length := by omega
      have hcv := convB c' HO.out.rb
      have HE : Hid (L = hexs l) := Lib.hid (by rw [hv.out, List.take_of_length_le (Nat.le_refl _)])
      go_wp2_with fail
      go_ret
      exact ⟨by rw [← HE.out]; rfl, HB.out⟩

set_option maxRecDepth 20000 in
set_option maxHeartbeats 4000000 in
theorem keyW (B b : Nat) (l s : List UInt8) (w : World) (h : WB w Tw B b l) (hs : s.length ≤ 64) (hlen : l.length ≤ 1000000) (hBw : B ≤ w.heap.size) :
    Calls Tryd.prog 49 #[.pointer (some ⟨b, 0, none⟩), .string ⟨s.toArray⟩] w fun e w' => e = .returned (.tuple #[]) ∧ WB w' Tw B b (addw l (120 :: hexs s)) ∧ Kp B b w w' := by
  obtain ⟨c, w1, hcv, hom, hb1⟩ := strBytes w s (by omega)
  have hs1 := hb1.size
  have hcat := fun W => concatB [120] (hexs s) (by rw [hexs_len]; simp; omega) W
  simp only [List.cons_append, List.nil_append] at hcat
  have HOM := Lib.hid hom
  clear hom
  have hxl := hexs_len s
  go_enter Tryd.func49, Tryd.ntmps49
  go_wp2_with (go_at_call 66; refine (hexC _ _ s _ HOM.out.rb hs).mono ?_)
  rintro e w2 ⟨rfl, hb2⟩
  have hs2 := hb2.size
  clear hcv
  go_wp2_with (go_at_call 28; refine (wordW B b l (120 :: hexs s) _ ((h.below hb1).below hb2) (by simp; omega) (by omega)).mono ?_)
  rintro e w3 ⟨rfl, h3, k3⟩
  go_wp2_with fail
  go_end0
  exact ⟨rfl, h3, (Kp.of_below (hb1.trans (hb2.mono hs1)) hBw).trans k3⟩

theorem Blk.of_alloc (w : World) (vs : List Value) (T : TypeId) : Blk (w.alloc (.cells vs.toArray T)) w.heap.size T vs.toArray := Blk.new _ _ _
/-- A command's cells. -/
def Cm.cells (c : Cm) : List Value := [.int .u64 c.ses, .int .u64 c.seq, .int .i64 c.op, .string ⟨c.key.toArray⟩, .int .i64 c.amount, .int .i64 c.span, .int .u64 c.lease]

set_option maxRecDepth 20000 in
set_option maxHeartbeats 8000000 in
theorem commandW (B b : Nat) (l : List UInt8) (c : Cm) (w : World) (h : WB w Tw B b l) (hc : c.wf) (hk : c.key.length ≤ 64) (hlen : l.length ≤ 100000) (hE : Env B w) (hBw : B ≤ w.heap.size) :
    Calls Tryd.prog 31 #[.pointer (some ⟨b, 0, none⟩), .agg c.cells.toArray] w fun e w' => e = .returned (.tuple #[]) ∧ WB w' Tw B b (addws l c.words) ∧ Kp B b w w' := by
  obtain ⟨h1, h2, h3, h4, h5, h6, h7, h8, h9, h10, h11, h12, h13⟩ := hc
  have hbk := Blk.of_alloc w c.cells 33
  have hw0 := h.alloc (.cells c.cells.toArray 33)
  have hE0 := hE.alloc hBw (.cells c.cells.toArray 33)
  have hk0 : Kp B b w (w.alloc (.cells c.cells.toArray 33)) := (Kp.refl _ _ _).alloc hBw _
  have hgb : w.heap.size ≠ b := by have := h.lt; omega
  have hs0 := hk0.size
  unfold Cm.cells at *
  go_enter Tryd.func31, Tryd.ntmps31
  have hx2 : (addws l ([c.ses, c.seq].map udec)).length ≤ 100100 := by
    have := addws_len (k := 21) ([c.ses, c.seq].map udec) l (by intro s hs; simp at hs; rcases hs with rfl | rfl <;> (have := udec_len h2; have := udec_len h4; omega))
    simp only [List.map_cons, List.map_nil, List.length_cons, List.length_nil] at this ⊢; omega
  have hx3 : (addws (addws l ([c.ses, c.seq].map udec)) ([c.op].map Lib.itoa)).length ≤ 100200 := by
    have := addws_len (k := 21) ([c.op].map Lib.itoa) (addws l ([c.ses, c.seq].map udec)) (by intro s hs; simp at hs; subst hs; have := itoa_len h5 h6; omega)
    simp only [List.map_cons, List.map_nil, List.length_cons, List.length_nil] at this hx2 ⊢; omega
  have hx4 : (addw (addws (addws l ([c.ses, c.seq].map udec)) ([c.op].map Lib.itoa)) (120 :: hexs c.key)).length ≤ 100400 := by
    have := addw_len (addws (addws l ([c.ses, c.seq].map udec)) ([c.op].map Lib.itoa)) (120 :: hexs c.key)
    rw [List.length_cons, hexs_len] at this; omega
  have hx5 : (addws (addw (addws (addws l ([c.ses, c.seq].map udec)) ([c.op].map Lib.itoa)) (120 :: hexs c.key)) ([c.amount, c.span].map Lib.itoa)).length ≤ 100500 := by
    have := addws_len (k := 21) ([c.amount, c.span].map Lib.itoa) (addw (addws (addws l ([c.ses, c.seq].map udec)) ([c.op].map Lib.itoa)) (120 :: hexs c.key)) (by intro s hs; simp at hs; rcases hs with rfl | rfl <;> (have := itoa_len h7 h8; have := itoa_len h9 h10; omega))
    simp only [List.map_cons, List.map_nil, List.length_cons, List.length_nil] at this hx4 ⊢; omega
  have HWS : Hid (addws (addws (addw (addws (addws l ([c.ses, c.seq].map udec)) ([c.op].map Lib.itoa)) (120 :: hexs c.key)) ([c.amount, c.span].map Lib.itoa)) ([c.lease].map udec) = addws l c.words) := Lib.hid (by simp [Cm.words, addws])
  generalize e2 : addws l ([c.ses, c.seq].map udec) = l2 at *
  generalize e3 : addws l2 ([c.op].map Lib.itoa) = l3 at *
  generalize e4 : addw l3 (120 :: hexs c.key) = l4 at *
  generalize e5 : addws l4 ([c.amount, c.span].map Lib.itoa) = l5 at *
  have E2 := Lib.hid e2
  have E3 := Lib.hid e3
  have E4 := Lib.hid e4
  have E5 := Lib.hid e5
  clear e2 e3 e4 e5
  go_wp2_with (go_at_call 30; refine (numsW B b l (w.heap.size + 1) 2 [c.ses, c.seq] _ (hw0.alloc _) ?a1 ?a2 (by simp) (by omega) (hE0.alloc (by simp; omega) _) (by simp; omega)).mono ?_)
  case a1 => simpa using Blk.of_alloc (w.alloc (.cells #[Value.int .u64 c.ses, Value.int .u64 c.seq, Value.int .i64 c.op, Value.string ⟨c.key.toArray⟩, Value.int .i64 c.amount, Value.int .i64 c.span, Value.int .u64 c.lease] 33)) [Value.int .u64 c.ses, Value.int .u64 c.seq] 31
  case a2 => intro z hz; simp at hz; rcases hz with rfl | rfl <;> omega
  rintro e w1 ⟨rfl, q1, k1⟩
  have hb1 := (hbk.kept ((Below.refl _ _).alloc (Nat.le_refl _) _)).kp k1 (by decide) hgb
  have hE1 := (hE0.alloc (by simp; omega) _).kp k1
  have hK1 := (hk0.alloc (by simp; omega) _).trans k1
  rw [E2.out] at q1
  clear h hbk hw0 hE0 hk0 hs0 k1
  have z1 := hK1.size
  have c2 := hb1.cell 2 rfl
  go_wp2_with (go_at_call 29; refine (intsW B b l2 w1.heap.size 1 [c.op] _ (q1.alloc _) ?a3 ?a4 (by simp) (by omega) (hE1.alloc (by omega) _) (by simp; omega)).mono ?_)
  case a3 => exact Blk.of_alloc w1 [Value.int .i64 c.op] 2
  case a4 => intro z hz; simp at hz; subst hz; omega
  rintro e w2 ⟨rfl, q2, k2⟩
  have hb2 := (hb1.kept ((Below.refl _ _).alloc (Nat.le_refl _) _)).kp k2 (by decide) hgb
  have hE2 := (hE1.alloc (by omega) _).kp k2
  have hK2 := (hK1.alloc (by omega) _).trans k2
  rw [E3.out] at q2
  clear hb1 q1 hE1 hK1 z1 k2 c2
  have z2 := hK2.size
  have c3 := hb2.cell 3 rfl
  go_wp2_with (go_at_call 49; refine (keyW B b l3 c.key _ q2 hk (by omega) (by omega)).mono ?_)
  rintro e w3 ⟨rfl, q3, k3⟩
  have hb3 := hb2.kp k3 (by decide) hgb
  have hE3 := hE2.kp k3
  have hK3 := hK2.trans k3
  rw [E4.out] at q3
  clear hb2 q2 hE2 hK2 z2 k3 c3
  have z3 := hK3.size
  have c4 := hb3.cell 4 rfl
  have c5 := hb3.cell 5 rfl
  go_wp2_with (go_at_call 29; refine (intsW B b l4 w3.heap.size 2 [c.amount, c.span] _ (q3.alloc _) ?a5 ?a6 (by simp) (by omega) (hE3.alloc (by omega) _) (by simp; omega)).mono ?_)
  case a5 => exact Blk.of_alloc w3 [Value.int .i64 c.amount, Value.int .i64 c.span] 2
  case a6 => intro z hz; simp at hz; rcases hz with rfl | rfl <;> omega
  rintro e w4 ⟨rfl, q4, k4⟩
  have hb4 := (hb3.kept ((Below.refl _ _).alloc (Nat.le_refl _) _)).kp k4 (by decide) hgb
  have hE4 := (hE3.alloc (by omega) _).kp k4
  have hK4 := (hK3.alloc (by omega) _).trans k4
  rw [E5.out] at q4
  clear hb3 q3 hE3 hK3 z3 k4 c4 c5
  have z4 := hK4.size
  have c6 := hb4.cell 6 rfl
  go_wp2_with (go_at_call 30; refine (numsW B b l5 w4.heap.size 1 [c.lease] _ (q4.alloc _) ?a7 ?a8 (by simp) (by omega) (hE4.alloc (by omega) _) (by simp; omega)).mono ?_)
  case a7 => exact Blk.of_alloc w4 [Value.int .u64 c.lease] 31
  case a8 => intro z hz; simp at hz; subst hz; omega
  rintro e w5 ⟨rfl, q5, k5⟩
  rw [HWS.out] at q5
  go_wp2_with fail
  go_end0
  exact ⟨rfl, q5, (hK4.alloc (by omega) _).trans k5⟩
end Go.Proofs.YtcinohmhhglpjaaDoor
