/- The walk of the law CodecSums. -/
import Derived.Test.YtekkcbonkjdgeaaFrame
import Derived.Test.YtekkcbonkjdgeaaText
import Derived.Test.YtekkcbonkjdgeaaArgs
import Derived.Test.YtekkcbonkjdgeaaPlan
namespace Go.Proofs.Ytekkcbonkjdgeaa
open Go.RowKit

theorem sl_info : (Try.prog.info? 23).map (fun i => (i.zero, i.size, i.bytes)) = some (some (.slice none 0 0), 1, 24) := by kernel_rfl

/-- All bytes in one row, and the lists in rows of their own. -/
structure SumInv (w : World) (base : Nat) (P : Option Addr) (cp : Nat) (p : List UInt8) (Y : Option Addr) (cy : Nat) (ys : List Value) (M : List (Option Addr × Nat × List UInt8)) : Prop where
  all : OB w base P cp p
  lists : OV w base 23 Y cy ys
  eq : ys = M.map fun t => .slice t.1 t.2.2.length t.2.1
  each : ∀ t ∈ M, OB w base t.1 t.2.1 t.2.2 ∧ t.2.2.length ≤ 1048576 ∧ (t.1.map (·.block) = none ∨ t.1.map (·.block) ≠ P.map (·.block))

section
variable {w w' : World} {base : Nat} {P P' Y Y' : Option Addr} {cp cp' cy cy' : Nat} {p p' : List UInt8} {ys ys' : List Value} {M : List (Option Addr × Nat × List UInt8)}
theorem SumInv.below (h : SumInv w base P cp p Y cy ys M) (hb : Below w.heap.size w w') : SumInv w' base P cp p Y cy ys M :=
  ⟨h.all.below hb, h.lists.below hb, h.eq, fun t ht => ⟨(h.each t ht).1.below hb, (h.each t ht).2⟩⟩
theorem SumInv.more (h : SumInv w base P cp p Y cy ys M) (ho : OB w' base P' cp' p') (hg : w.grownBy w' (Value.slice P p.length cp).ownBlock) (hat : P'.map (·.block) = P.map (·.block) ∨ P'.map (·.block) = some w.heap.size) : SumInv w' base P' cp' p' Y cy ys M := by
  rw [own_blk] at hg
  refine ⟨ho, ?_, h.eq, fun t ht => ?_⟩
  · refine World.ownsRow.kept h.lists hg ?_
    have := own_types h.lists h.all (by decide)
    rw [own_blk] at this
    rw [own_blk] at this
    rw [own_blk]
    exact this
  · obtain ⟨h1, h2, h3⟩ := h.each t ht
    refine ⟨World.ownsRow.kept h1 hg (by rw [own_blk]; exact h3), h2, ?_⟩
    rcases h3 with h3 | h3
    · exact .inl h3
    · rcases hat with e | e
      · exact .inr (by rw [e]; exact h3)
      · rw [e]
        cases hm : t.1.map (·.block) with
        | none => exact .inl rfl
        | some g =>
          right
          have := h1.own_lt g (by rw [own_blk, hm])
          intro e'
          injection e' with e'
          omega
theorem SumInv.add (h : SumInv w base P cp p Y cy ys M) (t : Option Addr × Nat × List UInt8) (ht : OB w base t.1 t.2.1 t.2.2) (htl : t.2.2.length ≤ 1048576) (htn : t.1.map (·.block) = none ∨ t.1.map (·.block) ≠ P.map (·.block))
    (ho : OV w' base 23 Y' cy' ys') (hy : ys' = ys ++ [.slice t.1 t.2.2.length t.2.1]) (hg : w.grownBy w' (Value.slice Y ys.length cy).ownBlock) : SumInv w' base P cp p Y' cy' ys' (M ++ [t]) := by
  have keep : ∀ {A : Option Addr} {c : Nat} {l : List UInt8}, OB w base A c l → OB w' base A c l := fun k =>
    World.ownsRow.kept k hg (own_types k h.lists (by decide))
  refine ⟨keep h.all, ho, by rw [hy, h.eq]; simp, fun u hu => ?_⟩
  rcases List.mem_append.1 hu with hu | hu
  · obtain ⟨h1, h2, h3⟩ := h.each u hu
    exact ⟨keep h1, h2, h3⟩
  · rw [List.mem_singleton] at hu
    subst hu
    exact ⟨keep ht, htl, htn⟩
theorem SumInv.rbb (h : SumInv w base P cp p Y cy ys M) : RBB w Y M := by
  refine ⟨?_, fun t ht => ⟨(h.each t ht).1.rb, by have := (h.each t ht).2.1; omega⟩⟩
  rw [← h.eq]
  exact h.lists.rv
end

theorem allB_snoc (L : List (Option Addr × Nat × List UInt8)) (k : Nat) (h : k < L.length) : allB (L.take (k + 1)) = allB (L.take k) ++ L[k].2.2 := by
  rw [List.take_succ_eq_append_getElem h]; unfold allB; rw [List.flatMap_append]; simp
theorem allB_len (L : List (Option Addr × Nat × List UInt8)) : (allB L).length = (L.map fun t => t.2.2.length).sum := by
  unfold allB; rw [List.length_flatMap]
theorem allB_le (L : List (Option Addr × Nat × List UInt8)) (k : Nat) : (allB (L.take k)).length ≤ (allB L).length := by
  conv => rhs; rw [← List.take_append_drop k L]
  unfold allB; rw [List.flatMap_append]; simp

theorem one_cell (w : World) (v : Value) (T : TypeId) : (w.alloc (.cells #[v] T)).cell? ⟨w.heap.size, 0, none⟩ = some v := by
  obtain ⟨b, off, e, _, hc⟩ := (RV.one w v T).cell (j := 0) (by simp)
  injection e with e
  injection e with e1 e2
  subst e1 e2
  simp
/-- What the two frame makers end in, large or not. -/
def frAny (d : List UInt8) : List UInt8 := if d.length ≤ 65536 then frameB d else []
def erAny (d : List UInt8) : Int := if d.length ≤ 65536 then 0 else 7
def AnyE (w : World) (d : List UInt8) (e : Ending) (w' : World) : Prop :=
  ∃ (k : List UInt8) (A : Option Addr) (c : Nat) (v : Int), Hid (k = frAny d) ∧ k.length ≤ 65544 ∧ Hid (v = erAny d) ∧ e = .returned (.tuple #[.slice A k.length c, .int .i64 v]) ∧ RB w' A k ∧ Below w.heap.size w w'
theorem codecFrameAny (A : Option Addr) (c : Nat) (d : List UInt8) (w : World) (h : RB w A d) (hm : d.length ≤ 9223372036854775807) :
    Calls Try.prog 20 #[.slice A d.length c] w (AnyE w d) := by
  by_cases hl : d.length ≤ 65536
  · refine (codecFrame A c d w h hl).mono ?_
    rintro e w' ⟨k, A', c', hk, hk1, hk2, rfl, ho, hb⟩
    exact ⟨k, A', c', 0, Lib.hid (by rw [hk.out, frAny, if_pos hl]), by rw [frameB_len] at hk1; omega, Lib.hid (by rw [erAny, if_pos hl]), rfl, ho.rb, hb⟩
  · refine (codecFrame_large A c d w (by omega) hm).mono ?_
    rintro e w' ⟨rfl, rfl⟩
    exact ⟨[], none, 0, 7, Lib.hid (by rw [frAny, if_neg hl]), by simp, Lib.hid (by rw [erAny, if_neg hl]), rfl, RB.nil, Below.refl _ _⟩
theorem refFrameAny (A : Option Addr) (c : Nat) (d : List UInt8) (w : World) (h : RB w A d) (hm : d.length ≤ 9223372036854775807) :
    Calls Try.prog 21 #[.slice A d.length c] w (AnyE w d) := by
  by_cases hl : d.length ≤ 65536
  · refine (refFrame A c d w h hl).mono ?_
    rintro e w' ⟨k, A', c', hk, hk1, hk2, rfl, ho, hb⟩
    exact ⟨k, A', c', 0, Lib.hid (by rw [hk.out, frAny, if_pos hl]), by rw [frameB_len] at hk1; omega, Lib.hid (by rw [erAny, if_pos hl]), rfl, ho.rb, hb⟩
  · refine (refFrame_large A c d w (by omega) hm).mono ?_
    rintro e w' ⟨rfl, rfl⟩
    exact ⟨[], none, 0, 7, Lib.hid (by rw [frAny, if_neg hl]), by simp, Lib.hid (by rw [erAny, if_neg hl]), rfl, RB.nil, Below.refl _ _⟩

set_option maxRecDepth 100000 in
set_option maxHeartbeats 2000000 in
theorem walkCodecSums (A : Option Addr) (c : Nat) (L : List (Option Addr × Nat × List UInt8)) (w : World) (h : RBB w A L) (hL : L.length + (L.map fun t => t.2.2.length).sum ≤ 1048576) :
    Calls Try.prog 5 #[.slice A L.length c] w (Yes w) := by
  rw [← allB_len] at hL
  obtain ⟨i0, hi0, hz0, hz1, hz2⟩ := info_parts sl_info
  go_enter Try.func5, Try.ntmps5
  go_wp2_with fail
  go_loopw [3, 4, 5] (fun v s i wr => ∃ (k : Nat) (p : List UInt8) (P : Option Addr) (cp : Nat) (ys : List Value) (Y : Option Addr) (cy : Nat) (M : List (Option Addr × Nat × List UInt8)), k ≤ L.length ∧ i = .int .i64 (k : Int) ∧
      v = .slice P p.length cp ∧ s = .slice Y ys.length cy ∧ p.length ≤ 1048576 ∧ ys.length ≤ k ∧ Hid (p = allB (L.take k)) ∧ Hid (allB M = p) ∧ SumInv wr w.heap.size P cp p Y cy ys M ∧ Below w.heap.size w wr)
    (fun _ _ i _ => L.length - (intOf i).toNat)
  case atStart => exact ⟨0, [], none, 0, [], none, 0, [], Nat.zero_le _, rfl, rfl, rfl, by simp, by simp, Lib.hid (by simp [allB]), Lib.hid rfl, ⟨OB.nil _ _, OV.nil _ _ _, rfl, by simp⟩, Below.refl _ _⟩
  case round =>
    obtain ⟨k, p, P, cp, ys, Y, cy, M, hk, rfl, rfl, rfl, hpl, hyl, hp, hM, hinv, hb⟩ := hrel
    by_cases hlt : k < L.length
    · obtain ⟨bb, off, rfl, hbb, hc⟩ := (h.below hb).cell hlt
      obtain ⟨hr1, hr2⟩ := h.each L[k] (List.getElem_mem hlt)
      have hsum : p.length + L[k].2.2.length ≤ 1048576 := by
        have h1 := allB_le L (k + 1)
        rw [allB_snoc L k hlt, List.length_append, ← hp.out] at h1
        omega
      obtain ⟨y, hy⟩ : ∃ y, y = L[k].2.2 := ⟨_, rfl⟩
      obtain ⟨B, hB⟩ : ∃ Y, Y = L[k].1 := ⟨_, rfl⟩
      obtain ⟨z, hz⟩ : ∃ z, z = L[k].2.1 := ⟨_, rfl⟩
      rw [← hy, ← hB, ← hz] at hc
      rw [← hy] at hsum
      rw [← hy, ← hB] at hr1
      have HY := Lib.hid hy
      have hcb : ∀ w', Below w.heap.size w w' → RB w' B y := fun w' hw => hr1.below hw
      have HCB := Lib.hid hcb
      have HALL := Lib.hid hinv.all
      clear hy hB hz hr1 hr2 hcb
      obtain ⟨bb', off', e', hbb', hc'⟩ := h.cell hlt
      injection e' with e'
      injection e' with e1 e2
      subst e1 e2
      clear hc'
      have hcell : ∀ w', wr.grownBy w' (Value.slice P p.length cp).ownBlock → w'.cell? ⟨bb, off + k, none⟩ = some (.slice B y.length z) := fun w' hg => by
        have hb2 : Below w.heap.size w w' := hb.grown hg hb.size fun g hg => (HALL.out.own_lt g hg).1
        have h1 := hb2.cell (p := ⟨bb, off + k, none⟩) hbb'
        have h2 := hb.cell (p := ⟨bb, off + k, none⟩) hbb'
        rw [h1, ← h2, hc]
      have HCELLF := Lib.hid hcell
      clear hcell
      go_wp2_with (at_builtin; refine wp_appendBat _ rfl (.tmp 16) (.tmp 20) rfl w.heap.size _ _ _ _ p y rfl rfl HALL.out (HCB.out _ hb) (by omega) hb.size ?_; intro p2 P2 cp2 w2 hp2 hp21 hp22 ho2 hg2 hat2; have hc2 : w2.cell? ⟨bb, off + k, none⟩ = some (.slice B y.length z) := HCELLF.out w2 hg2)
      have hb2 : Below w.heap.size w w2 := hb.grown hg2 hb.size fun g hg => (HALL.out.own_lt g hg).1
      have hinv2 : SumInv w2 w.heap.size P2 cp2 p2 Y cy ys M := hinv.more ho2 hg2 hat2
      clear hinv ho2 hg2 hat2 HALL hc hbb
      refine (ownB B z y _ (HCB.out _ hb2) (by omega)).mono ?_
      rintro e w3 ⟨k3, A3, c3, hk3, hk31, hk32, rfl, ho3, hb3⟩
      have hb3' : Below w.heap.size w w3 := hb2.trans (hb3.mono hb2.size)
      have hinv3 := hinv2.below hb3
      have hne3 : A3.map (·.block) = none ∨ A3.map (·.block) ≠ P2.map (·.block) := by
        cases hm : A3.map (·.block) with
        | none => exact .inl rfl
        | some g =>
          right
          intro e'
          have h1 := (ho3.own_lt g (by rw [own_blk, hm])).1
          have h2 := (hinv2.all.own_lt g (by rw [own_blk, ← e'])).2
          omega
      have ho3' := ho3.base_le hb2.size
      have HP2 : Hid (p2 = allB (L.take (k + 1))) := Lib.hid (by rw [hp2.out, hp.out, allB_snoc L k hlt, HY.out])
      have HM2 : Hid (allB (M ++ [(A3, c3, k3)]) = p2) := Lib.hid (by
        have : allB (M ++ [(A3, c3, k3)]) = allB M ++ k3 := by unfold allB; rw [List.flatMap_append]; simp
        rw [this, hM.out, hp2.out, hk3.out])
      have HLIST := Lib.hid hinv3.lists
      have hp2l : p2.length ≤ 1048576 := by omega
      have hk3l : k3.length ≤ 1048576 := by omega
      have hsz3 := hb3'.size
      clear hinv2 ho3 hb3 hb2 hp2 hp hM hk3 HCB HCELLF HY hp21 hp22
      go_wp2_with (at_builtin; refine wp_append1 _ rfl (.tmp 22) (.tmp 28) 32 23 rfl Try.underlying32 hi0 hz0 hz1 hz2 rfl w.heap.size Y cy w3.heap.size ys (.slice A3 k3.length c3) rfl rfl (HLIST.out.alloc _) (one_cell _ _ _) rfl (by omega) (by omega) (by simp; omega) ?_; intro ys4 Y4 cy4 w4 hys4 hys41 hys42 ho4 hg4 hat4)
      have hb4 : Below w.heap.size w w4 := (hb3'.alloc hsz3 _).grown hg4 (by simp; omega) fun g hg => (HLIST.out.own_lt g hg).1
      have hinv4 : SumInv w4 w.heap.size P2 cp2 p2 Y4 cy4 ys4 (M ++ [(A3, c3, k3)]) := (hinv3.below ((Below.refl _ _).alloc (Nat.le_refl _) _)).add (A3, c3, k3) (ho3'.alloc _) hk3l hne3 ho4 hys4.out hg4
      go_roundw
      case rel => exact ⟨k + 1, p2, P2, cp2, ys4, Y4, cy4, _, by omega, by go_num, rfl, rfl, hp2l, by omega, HP2, HM2, hinv4, hb4⟩
      case measure => simp [intOf]; omega
    · obtain rfl : k = L.length := by omega
      rw [List.take_of_length_le (Nat.le_refl _)] at hp
      clear hlt hk
      have hrb := hinv.all.rb
      have hrbb := hinv.rbb
      have hML : M.length = ys.length := by rw [hinv.eq]; simp
      go_wp2_with fail
      refine (ownB P cp p _ hrb (by omega)).mono ?_
      rintro e w1 ⟨k1, A1, c1, hk1, hk11, hk12, rfl, ho1, hb1⟩
      go_wp2_with fail
      refine (codecFrameAny A1 c1 k1 _ ho1.rb (by omega)).mono ?_
      rintro e w2 ⟨k2, A2, c2, v2, hk2, hk21, hv2, rfl, ho2, hb2⟩
      have B2 : Below wr.heap.size wr w2 := hb1.trans (hb2.mono hb1.size)
      go_wp2_with fail
      refine (refFrameAny P cp p _ (hrb.below B2) (by omega)).mono ?_
      rintro e w3 ⟨k3, A3, c3, v3, hk3, hk31, hv3, rfl, ho3, hb3⟩
      have B3 : Below wr.heap.size wr w3 := B2.trans (hb3.mono B2.size)
      have hks : k2.length ≤ 65544 ∧ k3.length ≤ 65544 := ⟨hk21, hk31⟩
      have heqk : (k2 == k3) = true := by rw [hk2.out, hk3.out, hk1.out]; simp
      have heqv : (v2 == v3) = true := by rw [hv2.out, hv3.out, hk1.out]; simp
      have B3' : Below w.heap.size w w3 := hb.trans (B3.mono hb.size)
      have HBP := hrb.below B3
      have HBM := hrbb.below B3
      have r2 := ho2.below hb3
      clear hb3 hb2 hb1 B2 B3 hk2 hk3 hv2 hv3 hk1 hk11 hk12 ho1 hrb hrbb hinv hb hp h ho2
      go_wp2_with fail
      refine (codecAnswers _).mono ?_
      rintro e w6 ⟨rfl, hb6⟩
      go_wp2_with fail
      rw [← hML]
      refine (codecSum Y cy M _ (HBM.below hb6) (by omega)).mono ?_
      rintro e w7 ⟨rfl, hb7⟩
      rw [hM.out]
      go_wp2_with fail
      refine (refSum P cp p _ ((HBP.below hb6).below hb7) (by omega)).mono ?_
      rintro e w8 ⟨rfl, rfl⟩
      have hcv1 : (convert 23 9 (.slice A2 k2.length c2)).run Try.prog w7 = .ok (.string ⟨k2.toArray⟩) w7 := convB c2 ((r2.below hb6).below hb7)
      have hcv2 : (convert 23 9 (.slice A3 k3.length c3)).run Try.prog w7 = .ok (.string ⟨k3.toArray⟩) w7 := convB c3 ((ho3.below hb6).below hb7)
      go_wp2_with fail
      go_ret
      exact ⟨rfl, B3'.trans ((hb6.mono B3'.size).trans (hb7.mono (Nat.le_trans B3'.size hb6.size)))⟩
end Go.Proofs.Ytekkcbonkjdgeaa
