/- Contracts of package script: Script. -/
import Derived.Test.YtcinohmhhglpjaaDoorScrRs
namespace Go.Proofs.YtcinohmhhglpjaaDoor
open Go.RowKit

theorem act_size : (Tryd.prog.info? 35).map (·.size) = some 13 := by kernel_rfl
theorem laid_row (w : World) (cs ds : Array Value) (T : TypeId) : Below w.heap.size w ((w.alloc (.cells cs T)).setRow w.heap.size ds) ∧ Blk ((w.alloc (.cells cs T)).setRow w.heap.size ds) w.heap.size T ds := by
  have h1 : Below w.heap.size w (w.alloc (.cells cs T)) := (Below.refl _ _).alloc (Nat.le_refl _) _
  exact ⟨⟨h1.os, h1.tape, h1.output, by simp, fun j hj => (Go.setRow_other _ _ _ _ (by omega)).trans (h1.block j hj)⟩, (Blk.new w cs T).setRow ds⟩
abbrev Tb : TypeId := 62

/-- What the loop keeps: the text so far, or that it is too large. -/
structure Sofar (xs : List Ap) (t0 : List UInt8) (k : Nat) (g : Bool) (t : List UInt8) : Prop where
  ok : ∀ a ∈ xs.take k, a.ok = true
  len : t.length ≤ 67200
  ne : t ≠ []
  small : g = false → t = (xs.take k).foldl addLine t0
  large : g = true → 65536 < xs.length ∨ 65536 < ((xs.take k).foldl addLine t0).length
  many : 65536 < xs.length → g = true
section
variable {xs : List Ap} {t0 : List UInt8} {k : Nat} {g : Bool} {t : List UInt8}
theorem Sofar.start (h : t0.length ≤ 67200) (hn : t0 ≠ []) : Sofar xs t0 0 (decide ((65536 : Int) < (xs.length : Int))) t0 :=
  ⟨by simp, h, hn, fun _ => rfl, fun h => .inl (by have := of_decide_eq_true h; omega), fun h => decide_eq_true (by omega)⟩
theorem Sofar.full (h : Sofar xs t0 k true t) (hk : k < xs.length) (ho : xs[k].ok = true) : Sofar xs t0 (k + 1) true t := by
  refine ⟨take_ok hk h.ok ho, h.len, h.ne, (by simp), fun _ => ?_, fun _ => rfl⟩
  rcases h.large rfl with h1 | h1
  · exact .inl h1
  · refine .inr ?_
    rw [take_fold hk]
    have := text_grows ((xs.take k).foldl addLine t0) [xs[k]]
    simp only [List.foldl_cons, List.foldl_nil] at this
    omega
theorem Sofar.over (h : Sofar xs t0 k false t) (hk : k < xs.length) (ho : xs[k].ok = true) (hl : 65536 < t.length) : Sofar xs t0 (k + 1) true t := by
  refine ⟨take_ok hk h.ok ho, h.len, h.ne, (by simp), fun _ => .inr ?_, fun _ => rfl⟩
  rw [take_fold hk, ← h.small rfl]
  unfold addLine
  rw [if_neg (by omega)]
  omega
theorem Sofar.more (h : Sofar xs t0 k false t) (hk : k < xs.length) (ho : xs[k].ok = true) (hw : xs[k].wf) (hl : t.length ≤ 65536) : Sofar xs t0 (k + 1) false (t ++ (xs[k].line ++ [10])) := by
  have e : addLine t xs[k] = t ++ (xs[k].line ++ [10]) := by unfold addLine; rw [if_pos hl, List.append_assoc]
  refine ⟨take_ok hk h.ok ho, by rw [← e]; exact addLine_len hw ho h.len, by simp, fun _ => ?_, (by simp), fun hm => by have := h.many hm; simp at this⟩
  rw [take_fold hk, ← h.small rfl, e]
end

set_option maxRecDepth 20000 in
set_option maxHeartbeats 4000000 in
theorem scrScript (zs : List Int) (h10 : zs.length = 10) (hz : ∀ z ∈ zs, -9223372036854775808 ≤ z ∧ z ≤ 9223372036854775807) (A : Option Addr) (c : Nat) (xs : List Ap) (hn : xs.length ≤ 140737488351232) (ha : ∀ a ∈ xs, a.wf) (w : World) (hr : RS w A 13 (xs.map Ap.cells)) (hE : Env w.heap.size w) :
    Calls Tryd.prog 9 #[.agg (zs.map (Value.int .i64)).toArray, .slice A xs.length c] w (ScriptE zs xs w) := by
  have CS := Lib.hid (scrSetting zs h10 hz)
  have hsl := set_len h10 hz
  have HA := Lib.hid ha
  have hB0 : Below w.heap.size w (w.alloc (.cells (zs.map (Value.int .i64)).toArray 23)) := (Below.refl _ _).alloc (Nat.le_refl _) _
  have HR := Lib.hid hr
  have HE := Lib.hid hE
  obtain ⟨t0, ht0, hl0, hcat⟩ := catE (setLine zs) [10] 300 1 301 hsl (by simp) (by decide) (by decide)
  have HS : Hid (t0 = setLine zs ++ [10]) := ht0
  have HST : Hid (Sofar xs t0 0 (decide ((65536 : Int) < (xs.length : Int))) t0) := Lib.hid (Sofar.start (by omega) (by rw [HS.out]; simp))
  obtain ⟨sl, hsl0⟩ : ∃ sl, sl = setLine zs := ⟨_, rfl⟩
  rw [← hsl0] at CS hsl hcat HS
  have HSL := Lib.hid hsl0
  obtain ⟨z0, z1, z2, z3, z4, z5, z6, z7, z8, z9, rfl⟩ := ten h10
  clear h10 hz ha hr ht0 hsl hsl0 hE
  simp only [List.map_cons, List.map_nil] at *
  have hWB := WB.new (w.alloc (.cells #[.int .i64 z0, .int .i64 z1, .int .i64 z2, .int .i64 z3, .int .i64 z4, .int .i64 z5, .int .i64 z6, .int .i64 z7, .int .i64 z8, .int .i64 z9] 23)) Tb (B := w.heap.size) (by simp)
  rw [show (w.alloc (.cells #[Value.int .i64 z0, .int .i64 z1, .int .i64 z2, .int .i64 z3, .int .i64 z4, .int .i64 z5, .int .i64 z6, .int .i64 z7, .int .i64 z8, .int .i64 z9] 23)).heap.size = w.heap.size + 1 from by simp] at hWB
  have HWB := Lib.hid hWB
  have hB1 := hB0.alloc (by simp) (.cells #[.pointer none, .slice none 0 0] Tb)
  clear hB0 hWB
  go_enter Tryd.func9, Tryd.ntmps9
  go_wp2_with (go_at_call 23; refine (CS.out _ ((HE.out.below hB1).up hB1.size)).mono ?_)
  rintro e w1 ⟨rfl, hb1⟩
  have hB2 := hB1.trans (hb1.mono hB1.size)
  have HWB1 := Lib.hid (HWB.out.below hb1)
  have hsz2 := hB2.size
  clear hB1 hb1 CS HWB
  go_wp2_with (go_at_call 22; refine (writeStringW Tb bt_builder w.heap.size (w.heap.size + 1) [] t0 _ HWB1.out (by simp; omega) hsz2).mono ?_)
  rintro e w2 ⟨rfl, q2, k2⟩
  have HB2 := Lib.hid (hB2.trans k2.below)
  have HW2 := Lib.hid (show WB w2 Tb w.heap.size (w.heap.size + 1) t0 from q2)
  clear hB2 q2 k2 HWB1 hsz2
  go_wp2_with fail
  go_loopw [7, 21] (fun o i wr => ∃ (k : Nat) (g : Bool) (t : List UInt8), k ≤ xs.length ∧ i = .int .i64 (k : Int) ∧ o = .bool g ∧ Hid (Sofar xs t0 k g t) ∧ Hid (WB wr Tb w.heap.size (w.heap.size + 1) t) ∧ Hid (Below w.heap.size w wr)) (fun _ i _ => xs.length - (intOf i).toNat)
  case atStart => exact ⟨0, _, t0, Nat.zero_le _, rfl, rfl, HST, HW2, HB2⟩
  case round =>
    clear HST HW2 HB2
    obtain ⟨k, g, t, hk, rfl, rfl, HS0, HW, HB⟩ := hrel
    have hsz := HB.out.size
    by_cases hlt : k < xs.length
    · obtain ⟨b, off, rfl, hbl, hc⟩ := acts_row (HR.out.below HB.out) hlt
      have hwf := HA.out _ (List.getElem_mem hlt)
      have CA := Lib.hid (scrAct xs[k] hwf)
      have HBAD := Lib.hid (fun (h : xs[k].ok = false) (w' : World) (hb : Below w.heap.size w w') => scriptE_bad (zs := [z0, z1, z2, z3, z4, z5, z6, z7, z8, z9]) hlt h hb)
      have HLL := Lib.hid (fun h => Ap.line_len hwf h)
      have HF := Lib.hid (fun (ho : xs[k].ok = true) (h : Sofar xs t0 k true t) => h.full hlt ho)
      have HO := Lib.hid (fun (ho : xs[k].ok = true) (h : Sofar xs t0 k false t) => h.over hlt ho)
      have HM := Lib.hid (fun (ho : xs[k].ok = true) (h : Sofar xs t0 k false t) => h.more hlt ho hwf)
      generalize xs[k] = a at *
      obtain ⟨kind, ka, kb, kn, kdraw, kmask, ⟨ses, seq, op, key, amount, span, lease⟩⟩ := a
      have d0 := hc 0 _ rfl
      have d1 := hc 1 _ rfl
      have d2 := hc 2 _ rfl
      have d3 := hc 3 _ rfl
      have d4 := hc 4 _ rfl
      have d5 := hc 5 _ rfl
      have d6 := hc 6 _ rfl
      have d7 := hc 7 _ rfl
      have d8 := hc 8 _ rfl
      have d9 := hc 9 _ rfl
      have d10 := hc 10 _ rfl
      have d11 := hc 11 _ rfl
      have d12 := hc 12 _ rfl
      simp only [Nat.add_zero] at d0
      clear hc hwf
      unfold Ap.cells Cm.cells at CA
      simp only [List.cons_append, List.nil_append] at CA
      have HZ := Lib.hid (Blk.new wr #[.int .i64 0, .int .i64 0, .int .i64 0, .int .i64 0, .int .u64 0, .int .u64 0, .int .u64 0, .int .u64 0, .int .i64 0, .string ⟨#[]⟩, .int .i64 0, .int .i64 0, .int .u64 0] 35)
      obtain ⟨hba, hxa⟩ := laid_row wr #[.int .i64 0, .int .i64 0, .int .i64 0, .int .i64 0, .int .u64 0, .int .u64 0, .int .u64 0, .int .u64 0, .int .i64 0, .string ⟨#[]⟩, .int .i64 0, .int .i64 0, .int .u64 0] #[.int .i64 kind, .int .i64 ka, .int .i64 kb, .int .i64 kn, .int .u64 kdraw, .int .u64 kmask, .int .u64 ses, .int .u64 seq, .int .i64 op, .string ⟨key.toArray⟩, .int .i64 amount, .int .i64 span, .int .u64 lease] 35
      have HXA := Lib.hid hxa
      have HW3 := Lib.hid (HW.out.below hba)
      have HB3 := Lib.hid (HB.out.trans (hba.mono HB.out.size))
      have HE3 := Lib.hid ((HE.out.below HB3.out).up HB3.out.size)
      clear hba hxa HW HB
      cases hok : Ap.ok ⟨kind, ka, kb, kn, kdraw, kmask, ⟨ses, seq, op, key, amount, span, lease⟩⟩
      · have H2 := Lib.hid (HBAD.out hok)
        unfold ActE at CA
        rw [hok] at CA
        simp only [Bool.false_eq_true, if_false] at CA
        clear hok HBAD HO HF HM HLL HS0
        go_wp2_with (refine wpList_store_row rfl 35 (.tmp 9) (.tmp 24) rfl wr.heap.size #[.int .i64 kind, .int .i64 ka, .int .i64 kb, .int .i64 kn, .int .u64 kdraw, .int .u64 kmask, .int .u64 ses, .int .u64 seq, .int .i64 op, .string ⟨key.toArray⟩, .int .i64 amount, .int .i64 span, .int .u64 lease] rfl rfl _ _ HZ.out act_size rfl (by simp [Value.oneCell']) ?_; have x0 := HXA.out.cell 0 rfl; have x1 := HXA.out.cell 1 rfl; have x2 := HXA.out.cell 2 rfl; have x3 := HXA.out.cell 3 rfl; have x4 := HXA.out.cell 4 rfl; have x5 := HXA.out.cell 5 rfl; have x6 := HXA.out.cell 6 rfl; have x7 := HXA.out.cell 7 rfl; have x8 := HXA.out.cell 8 rfl; have x9 := HXA.out.cell 9 rfl; have x10 := HXA.out.cell 10 rfl; have x11 := HXA.out.cell 11 rfl; have x12 := HXA.out.cell 12 rfl)
        refine (CA.out _ HE3.out).mono ?_
        rintro e w4 ⟨rfl, hb4⟩
        go_wp2_with fail
        go_ret2
        exact H2.out _ (HB3.out.trans (hb4.mono HB3.out.size))
      · have hll := HLL.out hok
        have HF2 := Lib.hid (HF.out hok)
        have HO2 := Lib.hid (HO.out hok)
        have HM2 := Lib.hid (HM.out hok)
        unfold ActE at CA
        rw [hok] at CA
        simp only [if_true] at CA
        clear hok HBAD HLL HF HO HM
        generalize Ap.line ⟨kind, ka, kb, kn, kdraw, kmask, ⟨ses, seq, op, key, amount, span, lease⟩⟩ = ln at *
        obtain ⟨ln2, hln2, hlnl, hcat2⟩ := catE ln [10] 1600 1 1601 hll (by simp) (by decide) (by decide)
        cases g
        · by_cases hbig : t.length ≤ 65536
          · have HS1 := HM2.out HS0.out hbig
            rw [← hln2.out] at HS1
            have HS2 := Lib.hid HS1
            have hd : decide ((65536 : Int) < (t.length : Int)) = false := by simp; omega
            clear HF2 HO2 HM2 HS0 HS1
            go_wp2_with (refine wpList_store_row rfl 35 (.tmp 9) (.tmp 24) rfl wr.heap.size #[.int .i64 kind, .int .i64 ka, .int .i64 kb, .int .i64 kn, .int .u64 kdraw, .int .u64 kmask, .int .u64 ses, .int .u64 seq, .int .i64 op, .string ⟨key.toArray⟩, .int .i64 amount, .int .i64 span, .int .u64 lease] rfl rfl _ _ HZ.out act_size rfl (by simp [Value.oneCell']) ?_; have x0 := HXA.out.cell 0 rfl; have x1 := HXA.out.cell 1 rfl; have x2 := HXA.out.cell 2 rfl; have x3 := HXA.out.cell 3 rfl; have x4 := HXA.out.cell 4 rfl; have x5 := HXA.out.cell 5 rfl; have x6 := HXA.out.cell 6 rfl; have x7 := HXA.out.cell 7 rfl; have x8 := HXA.out.cell 8 rfl; have x9 := HXA.out.cell 9 rfl; have x10 := HXA.out.cell 10 rfl; have x11 := HXA.out.cell 11 rfl; have x12 := HXA.out.cell 12 rfl)
            refine (CA.out _ HE3.out).mono ?_
            rintro e w4 ⟨rfl, hb4⟩
            have HW4 := Lib.hid (HW3.out.below hb4)
            have HB4 := Lib.hid (HB3.out.trans (hb4.mono HB3.out.size))
            have hsz4 := HB4.out.size
            clear hb4 HW3 HB3 HE3 HXA HZ CA x0 x1 x2 x3 x4 x5 x6 x7 x8 x9 x10 x11 x12 d0 d1 d2 d3 d4 d5 d6 d7 d8 d9 d10 d11 d12
            go_wp2_with (go_at_call 24; refine (lenW Tb _ _ _ _ HW4.out).mono ?_)
            rintro e w5 ⟨rfl, rfl⟩
            go_wp2_with (go_at_call 22; refine (writeStringW Tb bt_builder w.heap.size (w.heap.size + 1) t ln2 _ HW4.out (by omega) hsz4).mono ?_)
            rintro e w6 ⟨rfl, q6, k6⟩
            have HW6 := Lib.hid q6
            have HB6 := Lib.hid (HB4.out.trans k6.below)
            clear q6 k6
            go_wp2_with fail
            go_roundw
            case rel => exact ⟨k + 1, false, _, by omega, by go_num, rfl, HS2, HW6, HB6⟩
            case measure => simp [intOf]; omega
          · have HS2 := Lib.hid (HO2.out HS0.out (by omega))
            have hd : decide ((65536 : Int) < (t.length : Int)) = true := by simp; omega
            clear HF2 HO2 HM2 HS0
            go_wp2_with (refine wpList_store_row rfl 35 (.tmp 9) (.tmp 24) rfl wr.heap.size #[.int .i64 kind, .int .i64 ka, .int .i64 kb, .int .i64 kn, .int .u64 kdraw, .int .u64 kmask, .int .u64 ses, .int .u64 seq, .int .i64 op, .string ⟨key.toArray⟩, .int .i64 amount, .int .i64 span, .int .u64 lease] rfl rfl _ _ HZ.out act_size rfl (by simp [Value.oneCell']) ?_; have x0 := HXA.out.cell 0 rfl; have x1 := HXA.out.cell 1 rfl; have x2 := HXA.out.cell 2 rfl; have x3 := HXA.out.cell 3 rfl; have x4 := HXA.out.cell 4 rfl; have x5 := HXA.out.cell 5 rfl; have x6 := HXA.out.cell 6 rfl; have x7 := HXA.out.cell 7 rfl; have x8 := HXA.out.cell 8 rfl; have x9 := HXA.out.cell 9 rfl; have x10 := HXA.out.cell 10 rfl; have x11 := HXA.out.cell 11 rfl; have x12 := HXA.out.cell 12 rfl)
            refine (CA.out _ HE3.out).mono ?_
            rintro e w4 ⟨rfl, hb4⟩
            have HW4 := Lib.hid (HW3.out.below hb4)
            have HB4 := Lib.hid (HB3.out.trans (hb4.mono HB3.out.size))
            clear hb4 HW3 HB3 HE3 HXA HZ CA x0 x1 x2 x3 x4 x5 x6 x7 x8 x9 x10 x11 x12 d0 d1 d2 d3 d4 d5 d6 d7 d8 d9 d10 d11 d12
            go_wp2_with (go_at_call 24; refine (lenW Tb _ _ _ _ HW4.out).mono ?_)
            rintro e w5 ⟨rfl, rfl⟩
            go_wp2_with fail
            go_roundw
            case rel => exact ⟨k + 1, true, t, by omega, by go_num, rfl, HS2, HW4, HB4⟩
            case measure => simp [intOf]; omega
        · have HS2 := Lib.hid (HF2.out HS0.out)
          clear HF2 HO2 HM2 HS0
          go_wp2_with (refine wpList_store_row rfl 35 (.tmp 9) (.tmp 24) rfl wr.heap.size #[.int .i64 kind, .int .i64 ka, .int .i64 kb, .int .i64 kn, .int .u64 kdraw, .int .u64 kmask, .int .u64 ses, .int .u64 seq, .int .i64 op, .string ⟨key.toArray⟩, .int .i64 amount, .int .i64 span, .int .u64 lease] rfl rfl _ _ HZ.out act_size rfl (by simp [Value.oneCell']) ?_; have x0 := HXA.out.cell 0 rfl; have x1 := HXA.out.cell 1 rfl; have x2 := HXA.out.cell 2 rfl; have x3 := HXA.out.cell 3 rfl; have x4 := HXA.out.cell 4 rfl; have x5 := HXA.out.cell 5 rfl; have x6 := HXA.out.cell 6 rfl; have x7 := HXA.out.cell 7 rfl; have x8 := HXA.out.cell 8 rfl; have x9 := HXA.out.cell 9 rfl; have x10 := HXA.out.cell 10 rfl; have x11 := HXA.out.cell 11 rfl; have x12 := HXA.out.cell 12 rfl)
          refine (CA.out _ HE3.out).mono ?_
          rintro e w4 ⟨rfl, hb4⟩
          have HW4 := Lib.hid (HW3.out.below hb4)
          have HB4 := Lib.hid (HB3.out.trans (hb4.mono HB3.out.size))
          clear hb4 HW3 HB3 HE3 HXA HZ CA x0 x1 x2 x3 x4 x5 x6 x7 x8 x9 x10 x11 x12 d0 d1 d2 d3 d4 d5 d6 d7 d8 d9 d10 d11 d12
          go_wp2_with fail
          go_roundw
          case rel => exact ⟨k + 1, true, t, by omega, by go_num, rfl, HS2, HW4, HB4⟩
          case measure => simp [intOf]; omega
    · obtain rfl : k = xs.length := by omega
      clear HA
      cases g
      · by_cases hbig : t.length ≤ 65536
        · have hd : decide ((65536 : Int) < (t.length : Int)) = false := by simp; omega
          have HM : Hid (xs.length ≤ 65536) := Lib.hid (by
            rcases Nat.lt_or_ge 65536 xs.length with h | h
            · have := HS0.out.many h; cases this
            · exact h)
          have HNE := Lib.hid HS0.out.ne
          go_wp2_with (go_at_call 24; refine (lenW Tb _ _ _ _ HW.out).mono ?_)
          rintro e w5 ⟨rfl, rfl⟩
          go_wp2_with (go_at_call 25; refine (stringW Tb _ _ _ _ HW.out HNE.out).mono ?_)
          rintro e w6 ⟨rfl, hb6⟩
          go_wp2_with fail
          go_ret2
          exact scriptE_ok HS0.out.ok (by rw [HS0.out.small rfl, HS.out, HSL.out]) HM.out hbig (HB.out.trans hb6)
        · have hd : decide ((65536 : Int) < (t.length : Int)) = true := by simp; omega
          have HL : Hid (65536 < xs.length ∨ 65536 < ((xs.take xs.length).foldl addLine (sl ++ [10])).length) := Lib.hid (.inr (by rw [← HS.out, ← HS0.out.small rfl]; omega))
          rw [HSL.out] at HL
          go_wp2_with (go_at_call 24; refine (lenW Tb _ _ _ _ HW.out).mono ?_)
          rintro e w5 ⟨rfl, rfl⟩
          go_wp2_with fail
          go_ret2
          exact scriptE_large HS0.out.ok HL.out HB.out
      · have HL : Hid (65536 < xs.length ∨ 65536 < ((xs.take xs.length).foldl addLine (sl ++ [10])).length) := Lib.hid (by rw [← HS.out]; exact HS0.out.large rfl)
        rw [HSL.out] at HL
        go_wp2_with fail
        go_ret2
        exact scriptE_large HS0.out.ok HL.out HB.out
end Go.Proofs.YtcinohmhhglpjaaDoor
