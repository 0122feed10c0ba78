/- Put together of: StoC, StoD, StoF. -/
import Derived.Test.YtobdmlejabjmiaaGreatDoorZa23
import Derived.Deep.MidRow
/- Contracts: the reference's configurations: same, sound, own. -/
namespace Go.Proofs.YtobdmlejabjmiaaGreatDoor
open Go.RowKit
theorem conf_size : (Tryz.prog.info? 33).map (·.size) = some 2 := by kernel_rfl
theorem Blk.range {w : World} {g : Nat} {T : TypeId} {cs : Array Value} (h : Blk w g T cs) (o : Nat) (vs : List Value) (hv : ∀ j v, vs[j]? = some v → cs[o + j]? = some v) : w.rangeAt g o vs := fun j v hj => h.cell _ (hv j v hj)
set_option maxHeartbeats 4000000 in
theorem refSameInts (A X : Option Addr) (c d : Nat) (l m : List Int) (w : World) (h : RV w A (ncells .i64 l)) (hX : RV w X (ncells .i64 m)) (hl : l.length ≤ 9223372036854775807) (hm : m.length ≤ 9223372036854775807) (r : Bool) (hr : decide (l = m) = r) :
    Calls Tryz.prog 103 #[.slice A l.length c, .slice X m.length d] w fun e w' => e = .returned (.bool r) ∧ Below w.heap.size w w' := by
  have HR := Lib.hid h
  have HX := Lib.hid hX
  have HRR := Lib.hid hr
  clear h hX hr
  go_enter Tryz.func103, Tryz.ntmps103
  go_wp2_with fail
  go_loopw [5] (fun i wr => ∃ k : Nat, k ≤ l.length ∧ k ≤ m.length ∧ i = .int .i64 (k : Int) ∧ Hid (l.take k = m.take k) ∧ Hid (Below w.heap.size w wr))
    (fun i _ => l.length - (intOf i).toNat)
  case atStart => exact ⟨0, Nat.zero_le _, Nat.zero_le _, rfl, Lib.hid (by simp), Lib.hid (Below.refl _ _)⟩
  case round =>
    obtain ⟨k, hk, hk2, rfl, HK, HB⟩ := hrel
    by_cases hlt : k < l.length
    · by_cases hlt2 : k < m.length
      · obtain ⟨b, off, rfl, hb, hc⟩ := (HR.out.below HB.out).int hlt
        obtain ⟨b2, off2, rfl, hb2, hc2⟩ := (HX.out.below HB.out).int hlt2
        have hkz : (k : Int) < (l.length : Int) := by omega
        have hkz2 : (k : Int) < (m.length : Int) := by omega
        by_cases hx : l[k] = m[k]
        · have HT : Hid (l.take (k + 1) = m.take (k + 1)) := Lib.hid (by rw [List.take_succ_eq_append_getElem hlt, List.take_succ_eq_append_getElem hlt2, HK.out, hx])
          have hxb : (l[k] == m[k]) = true := by simpa using hx
          obtain ⟨x, hxe⟩ : ∃ x, x = l[k] := ⟨_, rfl⟩
          obtain ⟨y, hye⟩ : ∃ y, y = m[k] := ⟨_, rfl⟩
          rw [← hxe] at hc hxb
          rw [← hye] at hc2 hxb
          clear hx hxe hye HK
          go_wp2_with fail
          go_quiet (fail)
          go_wp2_with fail
          go_roundw
          case rel => exact ⟨k + 1, by omega, by omega, by go_num, HT, Lib.hid (bdN HB.out _)⟩
          case measure => simp [intOf]; omega
        · have HF : Hid (r = false) := Lib.hid (by
            rw [← HRR.out, decide_eq_false_iff_not]
            intro e
            subst e
            exact hx rfl)
          have hxb : (l[k] == m[k]) = false := by simpa using hx
          obtain ⟨x, hxe⟩ : ∃ x, x = l[k] := ⟨_, rfl⟩
          obtain ⟨y, hye⟩ : ∃ y, y = m[k] := ⟨_, rfl⟩
          rw [← hxe] at hc hxb
          rw [← hye] at hc2 hxb
          clear hx hxe hye HK
          go_wp2_with fail
          go_quiet (fail)
          go_wp2_with fail
          go_ret
          exact ⟨by rw [HF.out]; rfl, bdN HB.out _⟩
      · have HF : Hid (r = ((l.length : Int) == (m.length : Int))) := Lib.hid (by
          rw [← HRR.out, decide_eq_false (fun e => by subst e; exact hlt2 hlt)]
          exact (beq_eq_false_iff_ne.2 (by omega)).symm)
        clear HK
        go_wp2_with fail
        go_ret
        exact ⟨by rw [HF.out]; rfl, HB.out⟩
    · have HF : Hid (r = ((l.length : Int) == (m.length : Int))) := Lib.hid (by
        rw [← HRR.out]
        have h1 := HK.out
        rw [List.take_of_length_le (by omega)] at h1
        by_cases e : l = m
        · subst e; simp
        · rw [decide_eq_false e]
          refine (beq_eq_false_iff_ne.2 fun e2 => e ?_).symm
          rw [List.take_of_length_le (by omega)] at h1
          exact h1)
      clear HK
      go_wp2_with fail
      go_ret
      exact ⟨by rw [HF.out]; rfl, HB.out⟩
theorem any_take {l : List Int} {p : Int → Bool} {k : Nat} (h : k < l.length) : (l.take (k + 1)).any p = ((l.take k).any p || p l[k]) := by
  rw [List.take_succ_eq_append_getElem h, List.any_append]; simp
set_option maxHeartbeats 4000000 in
theorem refConfOK (V L : Option Addr) (vc lc : Nat) (v l : List Int) (w : World) (hv : RV w V (ncells .i64 v)) (hl : RV w L (ncells .i64 l)) (hn : v.length ≤ 9223372036854775807) (hm : l.length ≤ 9223372036854775807) (r : Bool) (hr : confB v l = r) :
    Calls Tryz.prog 48 #[.agg #[.slice V v.length vc, .slice L l.length lc]] w fun e w' => e = .returned (.bool r) ∧ Below w.heap.size w w' := by
  have HV := Lib.hid hv
  have HL := Lib.hid hl
  have HRR := Lib.hid hr
  have HAL : Hid (Below w.heap.size w (w.alloc (.cells #[.slice V v.length vc, .slice L l.length lc] 33))) := Lib.hid ((Below.refl _ _).alloc (Nat.le_refl _) _)
  have HZ := Lib.hid (Blk.new w #[.slice V v.length vc, .slice L l.length lc] 33)
  clear hv hl hr
  go_enter Tryz.func48, Tryz.ntmps48
  go_wp2_with fail
  go_loopw [3] (fun i wr => ∃ k : Nat, k ≤ v.length ∧ i = .int .i64 (k : Int) ∧ Hid ((v.take k).any (fun n => l.contains n) = false) ∧ Hid (Below (w.alloc (.cells #[.slice V v.length vc, .slice L l.length lc] 33)).heap.size (w.alloc (.cells #[.slice V v.length vc, .slice L l.length lc] 33)) wr))
    (fun i _ => v.length - (intOf i).toNat)
  case atStart => exact ⟨0, Nat.zero_le _, rfl, Lib.hid (by simp), Lib.hid (Below.refl _ _)⟩
  case round =>
    obtain ⟨k, hk, rfl, HK, HB⟩ := hrel
    have HZ2 := Lib.hid (HZ.out.kept HB.out)
    have c0 := HZ2.out.cell 0 rfl
    have c1 := HZ2.out.cell 1 rfl
    have HBW := Lib.hid (belowTrans HAL.out HB.out)
    have HV2 := Lib.hid (HV.out.below HBW.out)
    have HL2 := Lib.hid (HL.out.below HBW.out)
    by_cases hlt : k < v.length
    · obtain ⟨b, off, rfl, hb, hc⟩ := HV2.out.int hlt
      have hkz : (k : Int) < (v.length : Int) := by omega
      have HS := Lib.hid (any_take (p := fun n => l.contains n) hlt)
      obtain ⟨x, hxe⟩ : ∃ x, x = v[k] := ⟨_, rfl⟩
      rw [← hxe] at hc HS
      obtain ⟨q, hq⟩ : ∃ q, q = l.contains x := ⟨_, rfl⟩
      have HA : Hid ((v.take (k + 1)).any (fun n => l.contains n) = q) := Lib.hid (by rw [HS.out, HK.out, hq]; simp)
      have HQ := Lib.hid hq.symm
      clear hq HS HK
      cases q with
      | true =>
        have HF : Hid (r = false) := Lib.hid (by
          rw [← HRR.out]
          have : v.any (fun n => l.contains n) = true := by
            have h1 := HA.out
            rw [List.any_eq_true] at h1 ⊢
            obtain ⟨y, hy, h2⟩ := h1
            exact ⟨y, List.mem_of_mem_take hy, h2⟩
          unfold confB
          rw [this]
          simp)
        clear hxe
        go_wp2_with fail
        go_quiet ((go_at_call 101; exact Calls.quiet_of_same ((refHas L lc l x _ (HL2.out.drewN _) hm).mono fun _ _ h => ⟨h.1.trans (by rw [HQ.out]), h.2.symm⟩)))
        go_wp2_with fail
        go_ret
        exact ⟨by rw [HF.out]; rfl, bdN HBW.out _⟩
      | false =>
        clear hxe
        go_wp2_with fail
        go_quiet ((go_at_call 101; exact Calls.quiet_of_same ((refHas L lc l x _ (HL2.out.drewN _) hm).mono fun _ _ h => ⟨h.1.trans (by rw [HQ.out]), h.2.symm⟩)))
        go_wp2_with fail
        go_roundw
        case rel => exact ⟨k + 1, by omega, by go_num, HA, Lib.hid (bdN HB.out _)⟩
        case measure => simp [intOf]; omega
    · have HA : Hid (v.any (fun n => l.contains n) = false) := Lib.hid (by have := HK.out; rwa [List.take_of_length_le (by omega)] at this)
      have R1 := Lib.hid (refRising V vc v _ HV2.out hn)
      obtain ⟨r1, hr1⟩ : ∃ r1, r1 = risesB v := ⟨_, rfl⟩
      obtain ⟨r2, hr2⟩ : ∃ r2, r2 = risesB l := ⟨_, rfl⟩
      rw [← hr1] at R1
      have HF : Hid (r = (r1 && r2 && decide (0 < v.length))) := Lib.hid (by
        rw [← HRR.out]
        unfold confB
        rw [HA.out, ← hr1, ← hr2]; simp)
      have HR2 := Lib.hid hr2
      clear HK hr1 hr2
      go_wp2_with (go_at_call 102; refine R1.out.mono ?_)
      rintro e w2 ⟨rfl, b2⟩
      have HBW3 := Lib.hid (belowTrans HBW.out b2)
      have d0 := (HZ2.out.kept b2).cell 0 rfl
      have d1 := (HZ2.out.kept b2).cell 1 rfl
      have HZ3 := Lib.hid (HZ2.out.kept b2)
      clear R1 b2 c0 c1
      cases r1 with
      | false =>
        go_wp2_with fail
        go_ret
        exact ⟨by rw [HF.out]; rfl, HBW3.out⟩
      | true =>
        have R2 := Lib.hid (refRising L lc l _ (HL.out.below HBW3.out) hm)
        rw [← HR2.out] at R2
        go_wp2_with (go_at_call 102; refine R2.out.mono ?_)
        rintro e w3 ⟨rfl, b3⟩
        have HBW4 := Lib.hid (belowTrans HBW3.out b3)
        have e0 := (HZ3.out.kept b3).cell 0 rfl
        clear R2 b3 d0 d1
        cases r2 with
        | false =>
          go_wp2_with fail
          go_ret
          exact ⟨by rw [HF.out]; rfl, HBW4.out⟩
        | true =>
          go_wp2_with fail
          go_ret
          exact ⟨by rw [HF.out]; simp, HBW4.out⟩
end Go.Proofs.YtobdmlejabjmiaaGreatDoor


/- Contracts: the reference's snapshots: sound, same. -/
namespace Go.Proofs.YtobdmlejabjmiaaGreatDoor
open Go.RowKit
theorem shot_size : (Tryz.prog.info? 36).map (·.size) = some 5 := by kernel_rfl
/-- A snapshot's cells. -/
abbrev shotC (i t : Nat) (v l : List Int) (d : List UInt8) (V : Option Addr) (vc : Nat) (L : Option Addr) (lc : Nat) (D : Option Addr) (dc : Nat) : Array Value := #[.int .u64 (i : Int), .int .u64 (t : Int), .slice V v.length vc, .slice L l.length lc, .slice D d.length dc]
theorem shot_conf {w : World} {g : Nat} {T : TypeId} {i t : Nat} {v l : List Int} {d : List UInt8} {V L D : Option Addr} {vc lc dc : Nat} (h : Blk w g T (shotC i t v l d V vc L lc D dc)) : w.rangeAt g 2 [.slice V v.length vc, .slice L l.length lc] :=
  h.range 2 _ (by intro j x hj; match j, hj with | 0, hj => simpa using hj | 1, hj => simpa using hj | j + 2, hj => simp at hj)
theorem eq0 (i : Nat) : ((i : Int) == 0) = decide (i = 0) := by
  by_cases h : i = 0
  · subst h; rfl
  · rw [decide_eq_false h]; exact beq_eq_false_iff_ne.2 (by omega)
set_option maxHeartbeats 4000000 in
theorem refShotOK (i t : Nat) (v l : List Int) (d : List UInt8) (V : Option Addr) (vc : Nat) (L : Option Addr) (lc : Nat) (D : Option Addr) (dc : Nat) (w : World) (hv : RV w V (ncells .i64 v)) (hl : RV w L (ncells .i64 l))
    (hn : v.length ≤ 9223372036854775807) (hm : l.length ≤ 9223372036854775807) (hd : d.length ≤ 9223372036854775807) (hi : i ≤ 18446744073709551615) (ht : t ≤ 18446744073709551615) (r : Bool) (hr : shotB i t v l d.length = r) :
    Calls Tryz.prog 20 #[.agg (shotC i t v l d V vc L lc D dc)] w fun e w' => e = .returned (.bool r) ∧ Below w.heap.size w w' := by
  have hal : Below w.heap.size w (w.alloc (.cells (shotC i t v l d V vc L lc D dc) 36)) := (Below.refl _ _).alloc (Nat.le_refl _) _
  have HZ := Lib.hid (Blk.new w (shotC i t v l d V vc L lc D dc) 36)
  obtain ⟨c, hc⟩ : ∃ c, c = confB v l := ⟨_, rfl⟩
  have HC := Lib.hid (refConfOK V L vc lc v l _ (hv.below hal) (hl.below hal) hn hm c hc.symm)
  have HR : Hid (r = (c && decide (d.length ≤ 32768) && (decide (i = 0) == decide (t = 0)) && decide (i ≤ 4611686018427387904) && decide (t ≤ 4611686018427387904))) := Lib.hid (by rw [← hr]; unfold shotB; rw [hc])
  have HAL := Lib.hid hal
  have RG := Lib.hid (shot_conf HZ.out)
  clear hv hl hr hc hal
  unfold shotC at *
  go_enter Tryz.func20, Tryz.ntmps20
  go_wp2_with (first
    | (refine wpList_load_mid rfl 33 (.tmp 3) rfl w.heap.size 2 rfl [.slice V v.length vc, .slice L l.length lc] _ RG.out Tryz.underlying33 rfl conf_size ?_)
    | (go_at_call 48; refine HC.out.mono ?_))
  rintro e w1 ⟨rfl, b1⟩
  have HB := Lib.hid (belowTrans HAL.out b1)
  have HZ1 := HZ.out.kept b1
  have z0 := HZ1.cell 0 rfl
  have z1 := HZ1.cell 1 rfl
  have z4 := HZ1.cell 4 rfl
  clear HC RG HZ1 HZ b1
  cases c with
  | false =>
    go_wp2_with fail
    go_ret
    exact ⟨by rw [HR.out]; rfl, HB.out⟩
  | true =>
    by_cases h1 : d.length ≤ 32768
    · by_cases h2 : (decide (i = 0) == decide (t = 0)) = true
      · have h2' : (((i : Int) == 0) == ((t : Int) == 0)) = true := by
          rw [eq0, eq0]; exact h2
        by_cases h3 : i ≤ 4611686018427387904
        · by_cases h4 : t ≤ 4611686018427387904
          · have HF : Hid (r = true) := Lib.hid (by rw [HR.out, h2]; simp [h1, h3, h4])
            clear HR
            go_wp2_with fail
            go_ret
            exact ⟨by rw [HF.out]; refine ret_boolB ?_; simp; omega, HB.out⟩
          · have HF : Hid (r = false) := Lib.hid (by rw [HR.out]; simp [h4])
            clear HR
            go_wp2_with fail
            go_ret
            exact ⟨by rw [HF.out]; refine ret_boolB ?_; simp; omega, HB.out⟩
        · have HF : Hid (r = false) := Lib.hid (by rw [HR.out]; simp [h3])
          clear HR
          go_wp2_with fail
          go_ret
          exact ⟨by rw [HF.out]; rfl, HB.out⟩
      · have h2' : (((i : Int) == 0) == ((t : Int) == 0)) = false := by
          rw [eq0, eq0]; exact Bool.eq_false_iff.2 h2
        have HF : Hid (r = false) := Lib.hid (by rw [HR.out, Bool.eq_false_iff.2 h2]; simp)
        clear HR
        go_wp2_with fail
        go_ret
        exact ⟨by rw [HF.out]; rfl, HB.out⟩
    · have HF : Hid (r = false) := Lib.hid (by rw [HR.out]; simp [h1])
      clear HR
      go_wp2_with fail
      go_ret
      exact ⟨by rw [HF.out]; rfl, HB.out⟩
set_option maxHeartbeats 4000000 in
theorem refSameConf (V L X Y : Option Addr) (vc lc xc yc : Nat) (v l x y : List Int) (w : World) (hv : RV w V (ncells .i64 v)) (hl : RV w L (ncells .i64 l)) (hx : RV w X (ncells .i64 x)) (hy : RV w Y (ncells .i64 y))
    (n1 : v.length ≤ 9223372036854775807) (n2 : l.length ≤ 9223372036854775807) (n3 : x.length ≤ 9223372036854775807) (n4 : y.length ≤ 9223372036854775807) (r : Bool) (hr : (decide (v = x) && decide (l = y)) = r) :
    Calls Tryz.prog 49 #[.agg #[.slice V v.length vc, .slice L l.length lc], .agg #[.slice X x.length xc, .slice Y y.length yc]] w fun e w' => e = .returned (.bool r) ∧ Below w.heap.size w w' := by
  have hal : Below w.heap.size w ((w.alloc (.cells #[.slice V v.length vc, .slice L l.length lc] 33)).alloc (.cells #[.slice X x.length xc, .slice Y y.length yc] 33)) := ((Below.refl _ _).alloc (Nat.le_refl _) _).alloc (by simp) _
  obtain ⟨r1, hr1⟩ : ∃ r1, r1 = decide (v = x) := ⟨_, rfl⟩
  obtain ⟨r2, hr2⟩ : ∃ r2, r2 = decide (l = y) := ⟨_, rfl⟩
  have HR : Hid (r = (r1 && r2)) := Lib.hid (by rw [← hr, hr1, hr2])
  have S1 := Lib.hid (refSameInts V X vc xc v x _ (hv.below hal) (hx.below hal) n1 n3 r1 hr1.symm)
  have HZ := Lib.hid ((Blk.new w #[.slice V v.length vc, .slice L l.length lc] 33).below (((Below.refl (w.heap.size + 1) _).alloc (by simp) (.cells #[.slice X x.length xc, .slice Y y.length yc] 33))) (Nat.lt_succ_self _))
  have HZ2 := Lib.hid (Blk.new (w.alloc (.cells #[.slice V v.length vc, .slice L l.length lc] 33)) #[.slice X x.length xc, .slice Y y.length yc] 33)
  have HL := Lib.hid hl
  have HY := Lib.hid hy
  have HAL := Lib.hid hal
  have HR2 := Lib.hid hr2.symm
  have hws : (w.alloc (.cells #[.slice V v.length vc, .slice L l.length lc] 33)).heap.size = w.heap.size + 1 := by simp
  rw [hws] at HZ2
  clear hv hl hx hy hr hr1 hr2 hal hws
  go_enter Tryz.func49, Tryz.ntmps49
  go_wp2_with (go_at_call 103; refine S1.out.mono ?_)
  rintro e w1 ⟨rfl, b1⟩
  have HB := Lib.hid (belowTrans HAL.out b1)
  have z1 := (HZ.out.kept b1).cell 1 rfl
  have y1 := (HZ2.out.kept b1).cell 1 rfl
  clear S1 b1 HZ HZ2
  cases r1 with
  | false =>
    go_wp2_with fail
    go_ret
    exact ⟨by rw [HR.out]; rfl, HB.out⟩
  | true =>
    have S2 := Lib.hid (refSameInts L Y lc yc l y _ (HL.out.below HB.out) (HY.out.below HB.out) n2 n4 r2 HR2.out)
    go_wp2_with (go_at_call 103; refine S2.out.mono ?_)
    rintro e w2 ⟨rfl, b2⟩
    have HB2 := Lib.hid (belowTrans HB.out b2)
    clear S2 b2 z1 y1
    go_wp2_with fail
    go_ret
    exact ⟨by rw [HR.out]; simp, HB2.out⟩
set_option maxHeartbeats 8000000 in
theorem refSameShot (i t j u : Nat) (v l x y : List Int) (d f : List UInt8) (V L D X Y F : Option Addr) (vc lc dc xc yc fc : Nat) (w : World) (hv : RV w V (ncells .i64 v)) (hl : RV w L (ncells .i64 l)) (hd : RB w D d) (hx : RV w X (ncells .i64 x)) (hy : RV w Y (ncells .i64 y)) (hf : RB w F f)
    (n1 : v.length ≤ 9223372036854775807) (n2 : l.length ≤ 9223372036854775807) (n3 : x.length ≤ 9223372036854775807) (n4 : y.length ≤ 9223372036854775807) (r : Bool) (hr : (decide (i = j) && decide (t = u) && (decide (v = x) && decide (l = y)) && decide (d = f)) = r) :
    Calls Tryz.prog 21 #[.agg (shotC i t v l d V vc L lc D dc), .agg (shotC j u x y f X xc Y yc F fc)] w fun e w' => e = .returned (.bool r) ∧ Below w.heap.size w w' := by
  have hal : Below w.heap.size w ((w.alloc (.cells (shotC i t v l d V vc L lc D dc) 36)).alloc (.cells (shotC j u x y f X xc Y yc F fc) 36)) := ((Below.refl _ _).alloc (Nat.le_refl _) _).alloc (by simp) _
  obtain ⟨r3, hr3⟩ : ∃ r3, r3 = (decide (v = x) && decide (l = y)) := ⟨_, rfl⟩
  obtain ⟨r4, hr4⟩ : ∃ r4, r4 = decide (d = f) := ⟨_, rfl⟩
  have HR : Hid (r = (decide (i = j) && decide (t = u) && r3 && r4)) := Lib.hid (by rw [← hr, hr3, hr4])
  have S1 := Lib.hid (refSameConf V L X Y vc lc xc yc v l x y _ (hv.below hal) (hl.below hal) (hx.below hal) (hy.below hal) n1 n2 n3 n4 r3 hr3.symm)
  have HZ := Lib.hid ((Blk.new w (shotC i t v l d V vc L lc D dc) 36).below (((Below.refl (w.heap.size + 1) _).alloc (by simp) (.cells (shotC j u x y f X xc Y yc F fc) 36))) (Nat.lt_succ_self _))
  have HZ2 := Lib.hid (Blk.new (w.alloc (.cells (shotC i t v l d V vc L lc D dc) 36)) (shotC j u x y f X xc Y yc F fc) 36)
  have HD := Lib.hid hd
  have HF := Lib.hid hf
  have HAL := Lib.hid hal
  have hws : (w.alloc (.cells (shotC i t v l d V vc L lc D dc) 36)).heap.size = w.heap.size + 1 := by simp
  rw [hws] at HZ2
  have RG1 := Lib.hid (shot_conf HZ.out)
  have RG2 := Lib.hid (shot_conf HZ2.out)
  have H4 : Hid ((d == f) = r4) := Lib.hid (by
    rw [hr4]
    by_cases e : d = f
    · subst e; simp
    · rw [decide_eq_false e]; exact beq_eq_false_iff_ne.2 e)
  clear hv hl hx hy hr hr3 hr4 hal hws hd hf
  unfold shotC at *
  go_enter Tryz.func21, Tryz.ntmps21
  by_cases h1 : i = j
  · have h1' : ((i : Int) == (j : Int)) = true := by rw [h1]; simp
    by_cases h2 : t = u
    · have h2' : ((t : Int) == (u : Int)) = true := by rw [h2]; simp
      have HR' : Hid (r = (r3 && r4)) := Lib.hid (by rw [HR.out]; simp [h1, h2])
      clear HR h1 h2
      go_wp2_with (first
        | (refine wpList_load_mid rfl 33 (.tmp 18) rfl w.heap.size 2 rfl [.slice V v.length vc, .slice L l.length lc] _ RG1.out Tryz.underlying33 rfl conf_size ?_)
        | (refine wpList_load_mid rfl 33 (.tmp 20) rfl (w.heap.size + 1) 2 rfl [.slice X x.length xc, .slice Y y.length yc] _ RG2.out Tryz.underlying33 rfl conf_size ?_)
        | (go_at_call 49; refine S1.out.mono ?_))
      rintro e w1 ⟨rfl, b1⟩
      have HB := Lib.hid (belowTrans HAL.out b1)
      have z4 := (HZ.out.kept b1).cell 4 rfl
      have y4 := (HZ2.out.kept b1).cell 4 rfl
      have k1 : (convert 34 9 (.slice D d.length dc)).run Tryz.prog w1 = .ok (.string ⟨d.toArray⟩) w1 := convB dc (HD.out.below HB.out)
      have k2 : (convert 34 9 (.slice F f.length fc)).run Tryz.prog w1 = .ok (.string ⟨f.toArray⟩) w1 := convB fc (HF.out.below HB.out)
      have k4 := H4.out
      clear S1 b1 HZ HZ2 RG1 RG2
      cases r3 with
      | false =>
        clear k4
        go_wp2_with fail
        go_ret
        exact ⟨by rw [HR'.out]; rfl, HB.out⟩
      | true =>
        go_wp2_with fail
        go_ret
        exact ⟨by rw [HR'.out]; simp [H4.out], HB.out⟩
    · have h2' : ((t : Int) == (u : Int)) = false := beq_eq_false_iff_ne.2 (by omega)
      have HR' : Hid (r = false) := Lib.hid (by rw [HR.out]; simp [h2])
      clear HR h2 h1 S1
      go_wp2_with fail
      go_ret
      exact ⟨by rw [HR'.out]; rfl, HAL.out⟩
  · have h1' : ((i : Int) == (j : Int)) = false := beq_eq_false_iff_ne.2 (by omega)
    have HR' : Hid (r = false) := Lib.hid (by rw [HR.out]; simp [h1])
    clear HR h1 S1
    go_wp2_with fail
    go_ret
    exact ⟨by rw [HR'.out]; rfl, HAL.out⟩
end Go.Proofs.YtobdmlejabjmiaaGreatDoor


/- Contracts of package msg: sound configurations and snapshots, and their bytes. -/
namespace Go.Proofs.YtobdmlejabjmiaaGreatDoor
open Go.RowKit
section
variable {w w' : World}
set_option maxHeartbeats 2000000 in
theorem idxI (A : Option Addr) (c : Nat) (l : List Int) (n : Int) (w : World) (h : RV w A (ncells .i64 l)) (hl : l.length ≤ 9223372036854775807) (r : Bool) (hr : l.contains n = r) :
    Calls Tryz.prog 197 #[.slice A l.length c, .int .i64 n] w fun e w' => (∃ k : Int, e = .returned (.int .i64 k) ∧ decide (0 ≤ k) = r) ∧ w' = w := by
  have HR := Lib.hid h
  have HRR := Lib.hid hr
  clear h hr
  go_enter Tryz.func197, Tryz.ntmps197
  go_wp2_with fail
  go_loop [8] (fun i => ∃ k : Nat, k ≤ l.length ∧ i = .int .i64 (k : Int) ∧ Hid (n ∉ l.take k))
    (fun i => l.length - (intOf i).toNat)
  case atStart => exact ⟨0, Nat.zero_le _, rfl, Lib.hid (by simp)⟩
  case round =>
    obtain ⟨k, hk, rfl, HK⟩ := hrel
    by_cases hlt : k < l.length
    · obtain ⟨b, off, rfl, hb, hc⟩ := HR.out.int hlt
      by_cases hx : n = l[k]
      · have HF : Hid (r = true) := Lib.hid (by rw [← HRR.out, List.contains_iff_mem, hx]; exact List.getElem_mem hlt)
        have hxb : (n == l[k]) = true := by simpa using hx
        obtain ⟨x, hxe⟩ : ∃ x, x = l[k] := ⟨_, rfl⟩
        rw [← hxe] at hc hxb
        clear hx hxe HK
        go_wp2_with fail
        go_ret
        exact ⟨⟨(k : Int), rfl, by rw [HF.out]; simp⟩, rfl⟩
      · have HT : Hid (n ∉ l.take (k + 1)) := Lib.hid (by
          rw [List.take_succ_eq_append_getElem hlt, List.mem_append, List.mem_singleton]
          exact fun e => e.elim HK.out hx)
        have hxb : (n == l[k]) = false := by simpa using hx
        obtain ⟨x, hxe⟩ : ∃ x, x = l[k] := ⟨_, rfl⟩
        rw [← hxe] at hc hxb
        clear hx hxe HK
        go_wp2_with fail
        go_round
        case rel => exact ⟨k + 1, by omega, by go_num, HT⟩
        case measure => simp [intOf]; omega
    · have HF : Hid (r = false) := Lib.hid (by
        have := HK.out
        rw [List.take_of_length_le (by omega)] at this
        rw [← HRR.out, ← Bool.not_eq_true, List.contains_iff_mem]
        exact this)
      clear HK
      go_wp2_with fail
      go_ret
      exact ⟨⟨-1, rfl, by rw [HF.out]; simp⟩, rfl⟩
set_option maxHeartbeats 2000000 in
theorem containsI (A : Option Addr) (c : Nat) (l : List Int) (n : Int) (w : World) (h : RV w A (ncells .i64 l)) (hl : l.length ≤ 9223372036854775807) (r : Bool) (hr : l.contains n = r) :
    Calls Tryz.prog 161 #[.slice A l.length c, .int .i64 n] w fun e w' => e = .returned (.bool r) ∧ w' = w := by
  have IX := Lib.hid (idxI A c l n w h hl r hr)
  clear h hr
  go_enter Tryz.func161, Tryz.ntmps161
  go_wp2_with (go_at_call 197; refine IX.out.mono ?_)
  rintro e w1 ⟨⟨k, rfl, hk⟩, rfl⟩
  go_wp2_with fail
  go_ret
  exact ⟨by refine ret_boolB ?_; first | exact hk | simp, rfl⟩
abbrev inLrn (g : Nat) : Value := .func (.func 160) #[] #[.pointer (some ⟨g, 0, none⟩)]
set_option maxHeartbeats 2000000 in
theorem inLrnC (g : Nat) (L : Option Addr) (lc : Nat) (l : List Int) (n : Int) (w : World) (h1 : w.cell? ⟨g, 1, none⟩ = some (.slice L l.length lc)) (h : RV w L (ncells .i64 l)) (hl : l.length ≤ 9223372036854775807) (r : Bool) (hr : l.contains n = r) :
    Calls Tryz.prog 160 #[.int .i64 n, .pointer (some ⟨g, 0, none⟩)] w fun e w' => e = .returned (.bool r) ∧ w' = w := by
  have IX := Lib.hid (containsI L lc l n w h hl r hr)
  clear h hr
  go_enter Tryz.func160, Tryz.ntmps160
  go_wp2_with (go_at_call 161; refine IX.out.mono ?_)
  rintro e w1 ⟨rfl, rfl⟩
  go_wp2_with fail
  go_ret
  exact ⟨rfl, rfl⟩
set_option maxHeartbeats 2000000 in
theorem idxLrn (g : Nat) (V L : Option Addr) (vc lc : Nat) (v l : List Int) (w : World) (h1 : w.cell? ⟨g, 1, none⟩ = some (.slice L l.length lc)) (hv : RV w V (ncells .i64 v)) (h : RV w L (ncells .i64 l)) (hl : l.length ≤ 9223372036854775807) (hn : v.length ≤ 9223372036854775807) (r : Bool) (hr : (v.any fun n => l.contains n) = r) :
    Calls Tryz.prog 196 #[.slice V v.length vc, inLrn g] w fun e w' => (∃ k : Int, e = .returned (.int .i64 k) ∧ decide (0 ≤ k) = r) ∧ w' = w := by
  have HR := Lib.hid hv
  have HL := Lib.hid h
  have HRR := Lib.hid hr
  have H1 := Lib.hid h1
  clear hv h hr h1
  go_enter Tryz.func196, Tryz.ntmps196
  go_wp2_with fail
  go_loop [8] (fun i => ∃ k : Nat, k ≤ v.length ∧ i = .int .i64 (k : Int) ∧ Hid ((v.take k).any (fun n => l.contains n) = false))
    (fun i => v.length - (intOf i).toNat)
  case atStart => exact ⟨0, Nat.zero_le _, rfl, Lib.hid (by simp)⟩
  case round =>
    obtain ⟨k, hk, rfl, HK⟩ := hrel
    by_cases hlt : k < v.length
    · obtain ⟨b, off, rfl, hb, hc⟩ := HR.out.int hlt
      have HS := Lib.hid (any_take (p := fun n => l.contains n) hlt)
      obtain ⟨x, hxe⟩ : ∃ x, x = v[k] := ⟨_, rfl⟩
      rw [← hxe] at hc HS
      obtain ⟨q, hq⟩ : ∃ q, q = l.contains x := ⟨_, rfl⟩
      have HA : Hid ((v.take (k + 1)).any (fun n => l.contains n) = q) := Lib.hid (by rw [HS.out, HK.out, hq]; simp)
      have IC := Lib.hid (inLrnC g L lc l x w H1.out HL.out hl q hq.symm)
      clear hq HS HK hxe
      cases q with
      | true =>
        have HF : Hid (r = true) := Lib.hid (by
          rw [← HRR.out]
          have h1 := HA.out
          rw [List.any_eq_true] at h1 ⊢
          obtain ⟨y, hy, h2⟩ := h1
          exact ⟨y, List.mem_of_mem_take hy, h2⟩)
        go_wp2_with fail
        refine IC.out.mono ?_
        rintro e w1 ⟨rfl, rfl⟩
        go_wp2_with fail
        go_ret
        exact ⟨⟨(k : Int), rfl, by rw [HF.out]; simp⟩, rfl⟩
      | false =>
        go_wp2_with fail
        refine IC.out.mono ?_
        rintro e w1 ⟨rfl, rfl⟩
        go_wp2_with fail
        go_round
        case rel => exact ⟨k + 1, by omega, by go_num, HA⟩
        case measure => simp [intOf]; omega
    · have HF : Hid (r = false) := Lib.hid (by have := HK.out; rw [List.take_of_length_le (by omega)] at this; rw [← HRR.out]; exact this)
      clear HK
      go_wp2_with fail
      go_ret
      exact ⟨⟨-1, rfl, by rw [HF.out]; simp⟩, rfl⟩
set_option maxHeartbeats 2000000 in
theorem anyLrn (g : Nat) (V L : Option Addr) (vc lc : Nat) (v l : List Int) (w : World) (h1 : w.cell? ⟨g, 1, none⟩ = some (.slice L l.length lc)) (hv : RV w V (ncells .i64 v)) (h : RV w L (ncells .i64 l)) (hl : l.length ≤ 9223372036854775807) (hn : v.length ≤ 9223372036854775807) (r : Bool) (hr : (v.any fun n => l.contains n) = r) :
    Calls Tryz.prog 159 #[.slice V v.length vc, inLrn g] w fun e w' => e = .returned (.bool r) ∧ w' = w := by
  have IX := Lib.hid (idxLrn g V L vc lc v l w h1 hv h hl hn r hr)
  clear h hr h1 hv
  go_enter Tryz.func159, Tryz.ntmps159
  go_wp2_with (go_at_call 196; refine IX.out.mono ?_)
  rintro e w1 ⟨⟨k, rfl, hk⟩, rfl⟩
  go_wp2_with fail
  go_ret
  exact ⟨by refine ret_boolB ?_; first | exact hk | simp, rfl⟩
set_option maxHeartbeats 4000000 in
theorem msgConfOK (V L : Option Addr) (vc lc : Nat) (v l : List Int) (w : World) (hv : RV w V (ncells .i64 v)) (hl : RV w L (ncells .i64 l)) (hn : v.length ≤ 9223372036854775807) (hm : l.length ≤ 9223372036854775807) (r : Bool) (hr : confB v l = r) :
    Calls Tryz.prog 157 #[.agg #[.slice V v.length vc, .slice L l.length lc]] w fun e w' => e = .returned (.bool r) ∧ Below w.heap.size w w' := by
  have hal : Below w.heap.size w (w.alloc (.cells #[.slice V v.length vc, .slice L l.length lc] 33)) := (Below.refl _ _).alloc (Nat.le_refl _) _
  have hZ := Blk.new w #[.slice V v.length vc, .slice L l.length lc] 33
  obtain ⟨r1, hr1⟩ : ∃ r1, r1 = risesB v := ⟨_, rfl⟩
  obtain ⟨r2, hr2⟩ : ∃ r2, r2 = risesB l := ⟨_, rfl⟩
  obtain ⟨r3, hr3⟩ : ∃ r3, r3 = (v.any fun n => l.contains n) := ⟨_, rfl⟩
  have R1 := Lib.hid (msgRises V vc v _ (hv.below hal) hn)
  have R2 := Lib.hid (msgRises L lc l _ (hl.below hal) hm)
  have R3 := Lib.hid (anyLrn w.heap.size V L vc lc v l _ (hZ.cell 1 rfl) (hv.below hal) (hl.below hal) hm hn r3 hr3.symm)
  have HF : Hid (r = (r1 && r2 && decide (0 < v.length) && !r3)) := Lib.hid (by rw [← hr]; unfold confB; rw [hr1, hr2, hr3])
  rw [← hr1] at R1
  rw [← hr2] at R2
  have HAL := Lib.hid hal
  clear hv hl hr hr1 hr2 hr3 hal hZ
  go_enter Tryz.func157, Tryz.ntmps157
  go_wp2_with (go_at_call 158; refine R1.out.mono ?_)
  rintro e w1 ⟨rfl, rfl⟩
  cases r1 with
  | false =>
    go_wp2_with fail
    go_ret
    exact ⟨by rw [HF.out]; rfl, HAL.out⟩
  | true =>
    go_wp2_with (go_at_call 158; refine R2.out.mono ?_)
    rintro e w1 ⟨rfl, rfl⟩
    cases r2 with
    | false =>
      go_wp2_with fail
      go_ret
      exact ⟨by rw [HF.out]; rfl, HAL.out⟩
    | true =>
      by_cases h0 : 0 < v.length
      · have HF' : Hid (r = !r3) := Lib.hid (by rw [HF.out]; simp [h0])
        clear HF
        have h0z : (0 : Int) < (v.length : Int) := by omega
        go_wp2_with (go_at_call 159; refine R3.out.mono ?_)
        rintro e w1 ⟨rfl, rfl⟩
        go_wp2_with fail
        go_ret
        exact ⟨by rw [HF'.out]; refine ret_boolB ?_; simp, HAL.out⟩
      · have HF' : Hid (r = false) := Lib.hid (by rw [HF.out]; simp [h0])
        clear HF
        go_wp2_with fail
        go_ret
        exact ⟨by rw [HF'.out]; rfl, HAL.out⟩
set_option maxHeartbeats 4000000 in
theorem msgConfW (B o : Nat) (q : List UInt8) (V L : Option Addr) (vc lc : Nat) (v l : List Int) (w : World) (h : OutAt B o w q) (hB : B ≤ w.heap.size) (hBo : o < B) (hv : RV w V (ncells .i64 v)) (hl : RV w L (ncells .i64 l)) (hv1 : ∀ n ∈ v, 0 ≤ n ∧ n ≤ 1000000) (hl1 : ∀ n ∈ l, 0 ≤ n ∧ n ≤ 1000000) (hn : v.length ≤ 1000) (hm : l.length ≤ 1000)
    (hV : 0 < v.length → ∀ b, V.map (·.block) = some b → b ≠ o) (hL : 0 < l.length → ∀ b, L.map (·.block) = some b → b ≠ o) (hq : q.length ≤ 100000000) :
    Calls Tryz.prog 162 #[.pointer (some ⟨o, 0, none⟩), .agg #[.slice V v.length vc, .slice L l.length lc]] w (OutE B o (q ++ idsB v ++ idsB l) w) := by
  have hal : Below w.heap.size w (w.alloc (.cells #[.slice V v.length vc, .slice L l.length lc] 33)) := (Below.refl _ _).alloc (Nat.le_refl _) _
  have hZ := Blk.new w #[.slice V v.length vc, .slice L l.length lc] 33
  have I1 := Lib.hid (outIds B o q V vc v _ (h.below hal) (Nat.le_trans hB hal.size) hBo (hv.below hal) hV hv1 (by omega) (by omega))
  have HZ := Lib.hid hZ
  have hlo := h.lt
  have HL := Lib.hid (hl.below hal)
  have HLo := Lib.hid hL
  have HL1 := Lib.hid hl1
  have HAL := Lib.hid hal
  have hsz := hal.size
  have hq2 : (q ++ idsB v).length ≤ 100000000 + 9 + 9 * 1000 := by
    unfold idsB
    have h1 := putNums_len [(v.length : Int)]
    have h2 := putNums_len v
    simp only [List.length_append, List.length_cons, List.length_nil] at h1 ⊢
    omega
  clear hv hl hal h hV hL hl1 hv1 hZ
  go_enter Tryz.func162, Tryz.ntmps162
  go_wp2_with (go_at_call 163; refine I1.out.mono ?_)
  rintro e w1 ⟨rfl, h1, m1⟩
  have z1 := (HZ.out.mods m1 (by omega)).cell 1 rfl
  have I2 := Lib.hid (outIds B o _ L lc l w1 h1 (Nat.le_trans (Nat.le_trans hB hsz) m1.size) hBo (rv_mods HL.out m1 (fun h0 b hb => HLo.out (by rw [ncells_length] at h0; exact h0) b hb)) HLo.out HL1.out (by omega) (by omega))
  have M1 := Lib.hid ((Mods.of_below (S := (· = o)) HAL.out).then m1)
  clear h1 m1 I1
  go_wp2_with (go_at_call 163; refine I2.out.mono ?_)
  rintro e w2 ⟨rfl, h2, m2⟩
  go_wp2_with fail
  go_end0
  exact ⟨rfl, h2, M1.out.then m2⟩
end
end Go.Proofs.YtobdmlejabjmiaaGreatDoor

