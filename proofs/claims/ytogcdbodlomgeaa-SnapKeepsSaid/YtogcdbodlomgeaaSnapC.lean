/- The walk of the law SnapCuts. -/
import Derived.Test.YtogcdbodlomgeaaSnapB
import Derived.Test.YtogcdbodlomgeaaVals
import Derived.Test.YtogcdbodlomgeaaArgs
import Derived.Test.YtogcdbodlomgeaaWSumA
namespace Go.Proofs.Ytogcdbodlomgeaa
open Go.RowKit

set_option maxHeartbeats 1000000 in
theorem snapAnswers (w : World) : Calls Try.prog 17 #[] w fun e w' => e = .returned (.bool true) ∧ Below w.heap.size w w' := by
  have C : Hid (∀ (g : Nat) (hg : g = w.heap.size), Calls Try.prog 15 #[.int .u64 3, .int .u64 2, .slice (some ⟨g, 0, none⟩) 1 1, .int .i64 0] (w.alloc (.cells #[.int .u8 7] 5)) fun e w' =>
      ∃ (P : Option Addr) (d : Nat), e = .returned (.tuple #[.agg #[.int .u64 3, .int .u64 2, .int .i64 0, .bool true, .slice P 1 d], .int .i64 0]) ∧ RB w' P [7] ∧ Below (w.alloc (.cells #[.int .u8 7] 5)).heap.size (w.alloc (.cells #[.int .u8 7] 5)) w') := Lib.hid (fun g hg => by
    refine (snapCut 3 2 (some ⟨g, 0, none⟩) 1 [7] 0 (w.alloc (.cells #[.int .u8 7] 5)) (by subst hg; exact RB.one w 7 rfl) ⟨by simp, by omega⟩ (by simp) (by simp)).mono ?_
    rintro e w2 ⟨p, P, d, hp, hp1, rfl, ho, hb⟩
    obtain rfl : p = [7] := hp.out
    exact ⟨P, d, rfl, ho.rb, hb⟩)
  have hb0 : Below w.heap.size w (w.alloc (.cells #[.int .u8 7] 5)) := (Below.refl _ _).alloc (Nat.le_refl _) _
  go_enter Try.func17, Try.ntmps17
  go_wp2_with fail
  refine (C.out _ rfl).mono ?_
  rintro e w2 ⟨P, d, rfl, hr, hb⟩
  have hcv : ∀ cs, (convert 23 9 (.slice P 1 d)).run Try.prog (w2.alloc cs) = .ok (.string ⟨#[7]⟩) (w2.alloc cs) := fun cs => convB d (hr.alloc cs)
  have hB := (hb0.trans (hb.mono hb0.size))
  clear hr hb hb0
  go_wp2_with fail
  go_ret
  exact ⟨rfl, hB.alloc hB.size _⟩

/-- The piece and the error, of any place. -/
def cutF (i t : Int) (l : List UInt8) (off : Int) : Int × Int × Int × Bool × List UInt8 × Int :=
  if 0 ≤ off ∧ off ≤ (l.length : Int) then (i, t, off, decide (off.toNat + (chunk l off.toNat).length = l.length), chunk l off.toNat, 0) else (0, 0, 0, false, [], 1)
def CutE (i t : Int) (l : List UInt8) (off : Int) (w : World) (e : Ending) (w' : World) : Prop :=
  ∃ (I T O : Int) (lb : Bool) (p : List UInt8) (er : Int) (P : Option Addr) (d : Nat), Hid ((I, T, O, lb, p, er) = cutF i t l off) ∧ p.length ≤ 256 ∧
    e = .returned (.tuple #[.agg #[.int .u64 I, .int .u64 T, .int .i64 O, .bool lb, .slice P p.length d], .int .i64 er]) ∧ OB w' w.heap.size P d p ∧ Below w.heap.size w w'
theorem cutE_bad {i t : Int} {l : List UInt8} {off : Int} {w w' : World} (h : off < 0 ∨ (l.length : Int) < off) (hb : Below w.heap.size w w') : CutE i t l off w (PieceE 0 0 0 false none 0 0 1) w' :=
  ⟨0, 0, 0, false, [], 1, none, 0, Lib.hid (by rw [cutF, if_neg (by omega)]), by simp, rfl, OB.nil _ _, hb⟩
theorem cutE_ok {i t : Int} {l p : List UInt8} {k : Nat} {P : Option Addr} {d : Nat} {w w' : World} (hk : k ≤ l.length) (hp : Hid (p = chunk l k)) (hp1 : p.length ≤ 256) (ho : OB w' w.heap.size P d p) (hb : Below w.heap.size w w') :
    CutE i t l k w (PieceE i t k (decide (k + (chunk l k).length = l.length)) P p.length d 0) w' :=
  ⟨i, t, k, _, p, 0, P, d, Lib.hid (by rw [cutF, if_pos (by omega), hp.out]; simp), hp1, rfl, ho, hb⟩

theorem snapCutAny (i t : Int) (A : Option Addr) (c : Nat) (l : List UInt8) (off : Int) (w : World) (h : RB w A l) (hlc : l.length ≤ c ∧ c ≤ 9223372036854775807) (hl : l.length ≤ 140737488355328) (ho : -9223372036854775808 ≤ off ∧ off ≤ 9223372036854775807) :
    Calls Try.prog 15 #[.int .u64 i, .int .u64 t, .slice A l.length c, .int .i64 off] w (CutE i t l off w) := by
  by_cases hb : off < 0 ∨ (l.length : Int) < off
  · refine (snapCut_bad i t A c l off w (by omega) ho hb).mono ?_
    rintro e w' ⟨rfl, hw⟩
    exact cutE_bad hb hw
  · obtain ⟨k, rfl⟩ : ∃ k : Nat, off = (k : Int) := ⟨off.toNat, by omega⟩
    have hk : k ≤ l.length := by omega
    refine (snapCut i t A c l k w h hlc hl hk).mono ?_
    rintro e w' ⟨p, P, d, hp, hp1, rfl, hob, hw⟩
    exact cutE_ok hk hp hp1 hob hw
theorem refCutAny (i t : Int) (A : Option Addr) (c : Nat) (l : List UInt8) (off : Int) (w : World) (h : RB w A l) (hl : l.length ≤ 140737488355328) (ho : -9223372036854775808 ≤ off ∧ off ≤ 9223372036854775807) :
    Calls Try.prog 16 #[.int .u64 i, .int .u64 t, .slice A l.length c, .int .i64 off] w (CutE i t l off w) := by
  by_cases hb : off < 0 ∨ (l.length : Int) < off
  · refine (refCut_bad i t A c l off w (by omega) ho hb).mono ?_
    rintro e w' ⟨rfl, hw⟩
    exact cutE_bad hb hw
  · obtain ⟨k, rfl⟩ : ∃ k : Nat, off = (k : Int) := ⟨off.toNat, by omega⟩
    have hk : k ≤ l.length := by omega
    refine (refCut i t A c l k w h hl hk).mono ?_
    rintro e w' ⟨p, P, d, hp, hp1, rfl, hob, hw⟩
    exact cutE_ok hk hp hp1 hob hw

set_option maxRecDepth 20000 in
set_option maxHeartbeats 2000000 in
theorem walkSnapCuts (i t : Int) (A : Option Addr) (c : Nat) (l : List UInt8) (off : Int) (w : World) (_hi : 0 ≤ i ∧ i ≤ 18446744073709551615) (_ht : 0 ≤ t ∧ t ≤ 18446744073709551615) (h : RB w A l) (hl : l.length ≤ 140737488355328) (ho : I64 off) :
    Calls Try.prog 3 #[.int .u64 i, .int .u64 t, .slice A l.length c, .int .i64 off] w (Yes w) := by
  have HO : Hid (I64 off) := Lib.hid ho
  clear _hi _ht ho
  go_enter Try.func3, Try.ntmps3
  go_wp2_with (at_builtin; refine wp_appendB _ rfl (.tmp 16) (.tmp 17) rfl w.heap.size _ A 0 c [] l rfl rfl (OB.made0 _ (Nat.le_refl _)) (h.alloc _) (by simp; omega) (by simp) ?_; intro k1 A1 c1 w1 hk1 hk11 hk12 ho1 hg1)
  have hb1 : Below w.heap.size w w1 := ((Below.refl _ _).alloc (Nat.le_refl _) _).grown hg1 (by simp) (by simp [Value.ownBlock])
  have hk1' : k1 = l := by simpa using hk1.out
  have HK := Lib.hid hk1'
  have hc1 := ho1.cap
  simp only [List.length_nil, Nat.zero_add] at hk11 hk12
  refine (snapCutAny i t A1 c1 k1 off _ ho1.rb hc1 (by omega) HO.out).mono ?_
  rintro e w2 ⟨I, T, O, lb, p, er, P, d, hF, hp1, rfl, ho2, hb2⟩
  have hB2 : Below w.heap.size w w2 := hb1.trans (hb2.mono hb1.size)
  have hF' := hF.out
  rw [HK.out] at hF'
  have HF := Lib.hid hF'
  clear hF hF' hk1 hk1' hc1 hk11 hk12 ho1 hg1 hb1 hb2
  have hb3 : Below w2.heap.size w2 (w2.alloc (.cells #[.int .u64 I, .int .u64 T, .int .i64 O, .bool lb, .slice P p.length d] 25)) := (Below.refl _ _).alloc (Nat.le_refl _) _
  have hB3 := hB2.trans (hb3.mono hB2.size)
  have hk3 := Blk.new w2 #[.int .u64 I, .int .u64 T, .int .i64 O, .bool lb, .slice P p.length d] 25
  go_wp2_with fail
  refine (refCutAny i t A c l off _ (h.below hB3) (by omega) HO.out).mono ?_
  rintro e w4 ⟨I', T', O', lb', p', er', P', d', hF', hp1', rfl, ho4, hb4⟩
  have hEq := hF'.out.trans HF.out.symm
  injection hEq with e0 hEq
  injection hEq with e1 hEq
  injection hEq with e2 hEq
  injection hEq with e3 hEq
  injection hEq with e4 e5
  subst e0 e1 e2 e3 e4 e5
  have hB4 := hB3.trans (hb4.mono hB3.size)
  have hk4 := hk3.kept hb4
  have hr4 := (ho2.rb.alloc (.cells #[.int .u64 I', .int .u64 T', .int .i64 O', .bool lb', .slice P p'.length d] 25)).below hb4
  have hb5 : Below w4.heap.size w4 (w4.alloc (.cells #[.int .u64 I', .int .u64 T', .int .i64 O', .bool lb', .slice P' p'.length d'] 29)) := (Below.refl _ _).alloc (Nat.le_refl _) _
  have hB5 := hB4.trans (hb5.mono hB4.size)
  have hk5 := hk4.kept hb5
  have hr5 := hr4.below hb5
  have hs5 := ho4.rb.below hb5
  have hj5 := Blk.new w4 #[.int .u64 I', .int .u64 T', .int .i64 O', .bool lb', .slice P' p'.length d'] 29
  clear hr4 hb5 hk4 hB4 ho4 ho2 hk3 hb3 hB3 hb4 hF' HF hB2 hp1'
  go_wp2_with fail
  refine (snapAnswers _).mono ?_
  rintro e w6 ⟨rfl, hb6⟩
  have hk6 := hk5.kept hb6
  have hj6 := hj5.kept hb6
  have c0 := hk6.cell 0 rfl
  have c1 := hk6.cell 1 rfl
  have c2 := hk6.cell 2 rfl
  have c3 := hk6.cell 3 rfl
  have c4 := hk6.cell 4 rfl
  have d0 := hj6.cell 0 rfl
  have d1 := hj6.cell 1 rfl
  have d2 := hj6.cell 2 rfl
  have d3 := hj6.cell 3 rfl
  have d4 := hj6.cell 4 rfl
  have hcv1 : (convert 23 9 (.slice P p'.length d)).run Try.prog w6 = .ok (.string ⟨p'.toArray⟩) w6 := convB d (hr5.below hb6)
  have hcv2 : (convert 23 9 (.slice P' p'.length d')).run Try.prog w6 = .ok (.string ⟨p'.toArray⟩) w6 := convB d' (hs5.below hb6)
  have hB6 := hB5.trans (hb6.mono hB5.size)
  clear hk5 hj5 hr5 hs5 hB5 hb6
  go_wp2_with fail
  go_ret
  exact ⟨rfl, hB6⟩
end Go.Proofs.Ytogcdbodlomgeaa
