/- Contracts of the reference's readers: ToAct. -/
import Derived.Test.YtcinohmhhglpjaaDoorScrQb0
import Derived.Test.YtcinohmhhglpjaaDoorScrQb1
import Derived.Test.YtcinohmhhglpjaaDoorScrQb2
namespace Go.Proofs.YtcinohmhhglpjaaDoor
open Go.RowKit

theorem no_of {α : Type} {o : Option α} (h : o = none) : o.isSome = false := by rw [h]; rfl
theorem yes_of {α : Type} {o : Option α} {x : α} (h : o = some x) : o.isSome = true := by rw [h]; rfl

set_option maxRecDepth 20000 in
set_option maxHeartbeats 4000000 in
theorem refToActLen (s : List UInt8) (hs : s.length ≤ 4294967280) (hl : (parts 32 s).length ≠ 13) (w : World) : Calls Tryd.prog 15 #[.string ⟨s.toArray⟩] w (RefToActE s w) := by
  have HRES := Lib.hid (readAct_len hl)
  have CW := Lib.hid (refWords s hs)
  unfold WordsE at CW
  have hne : ((parts 32 s).length : Int) ≠ 13 := by omega
  generalize parts 32 s = L at *
  generalize hn : L.length = n at *
  have hneb : ((n : Int) != 13) = true := by rw [bne_iff_ne]; exact hne
  clear hl
  have hb0 : Below w.heap.size w (w.alloc (.cells #[.int .i64 0, .int .i64 0, .int .i64 0, .int .i64 0, .int .u64 0, .int .u64 0, .int .u64 0, .int .u64 0, .int .i64 0, .string ⟨#[]⟩, .int .i64 0, .int .i64 0, .int .u64 0] 35)) := (Below.refl _ _).alloc (Nat.le_refl _) _
  have HA0 := Lib.hid hb0
  have HX0 := Lib.hid (Blk.new w #[.int .i64 0, .int .i64 0, .int .i64 0, .int .i64 0, .int .u64 0, .int .u64 0, .int .u64 0, .int .u64 0, .int .i64 0, .string ⟨#[]⟩, .int .i64 0, .int .i64 0, .int .u64 0] 35)
  clear hb0
  go_enter Tryd.func15, Tryd.ntmps15
  go_wp2_with (go_at_call 45; refine (CW.out _).mono ?_)
  first | rintro e x0 ⟨hb, A, c, rfl, hr⟩ | rintro e x0 hb A c rfl hr
  have HA1 := Lib.hid (HA0.out.trans (hb.mono HA0.out.size))
  have HX1 := Lib.hid (HX0.out.kept hb)
  have hlt0 := HX1.out.lt
  have HN := Lib.hid (Blk.new x0 #[.int .i64 0, .int .i64 0, .int .i64 0, .int .i64 0, .int .u64 0, .int .u64 0, .int .u64 0, .int .u64 0, .int .i64 0, .string ⟨#[]⟩, .int .i64 0, .int .i64 0, .int .u64 0] 35)
  obtain ⟨hb2, hx2⟩ := row_in w x0 #[.int .i64 0, .int .i64 0, .int .i64 0, .int .i64 0, .int .u64 0, .int .u64 0, .int .u64 0, .int .u64 0, .int .i64 0, .string ⟨#[]⟩, .int .i64 0, .int .i64 0, .int .u64 0] #[.int .i64 0, .int .i64 0, .int .i64 0, .int .i64 0, .int .u64 0, .int .u64 0, .int .u64 0, .int .u64 0, .int .i64 0, .string ⟨#[]⟩, .int .i64 0, .int .i64 0, .int .u64 0] 35 HA1.out
  have HG2 := Lib.hid hx2
  have HX2 : Hid (Blk ((x0.alloc (.cells #[.int .i64 0, .int .i64 0, .int .i64 0, .int .i64 0, .int .u64 0, .int .u64 0, .int .u64 0, .int .u64 0, .int .i64 0, .string ⟨#[]⟩, .int .i64 0, .int .i64 0, .int .u64 0] 35)).setRow x0.heap.size #[.int .i64 0, .int .i64 0, .int .i64 0, .int .i64 0, .int .u64 0, .int .u64 0, .int .u64 0, .int .u64 0, .int .i64 0, .string ⟨#[]⟩, .int .i64 0, .int .i64 0, .int .u64 0]) w.heap.size 35 #[.int .i64 0, .int .i64 0, .int .i64 0, .int .i64 0, .int .u64 0, .int .u64 0, .int .u64 0, .int .u64 0, .int .i64 0, .string ⟨#[]⟩, .int .i64 0, .int .i64 0, .int .u64 0]) := Lib.hid ((HX1.out.kept ((Below.refl _ _).alloc (Nat.le_refl _) _)).setRow_other (k := x0.heap.size) #[.int .i64 0, .int .i64 0, .int .i64 0, .int .i64 0, .int .u64 0, .int .u64 0, .int .u64 0, .int .u64 0, .int .i64 0, .string ⟨#[]⟩, .int .i64 0, .int .i64 0, .int .u64 0] (by omega))
  obtain ⟨hb3, hx3⟩ := set_in #[.int .i64 0, .int .i64 0, .int .i64 0, .int .i64 0, .int .u64 0, .int .u64 0, .int .u64 0, .int .u64 0, .int .i64 0, .string ⟨#[]⟩, .int .i64 0, .int .i64 0, .int .u64 0] hb2 HX2.out (Nat.le_refl _)
  have HB3 := Lib.hid hb3
  have HX3 := Lib.hid hx3
  have q0 := HG2.out.cell 0 rfl; have q1 := HG2.out.cell 1 rfl; have q2 := HG2.out.cell 2 rfl; have q3 := HG2.out.cell 3 rfl; have q4 := HG2.out.cell 4 rfl; have q5 := HG2.out.cell 5 rfl; have q6 := HG2.out.cell 6 rfl; have q7 := HG2.out.cell 7 rfl; have q8 := HG2.out.cell 8 rfl; have q9 := HG2.out.cell 9 rfl; have q10 := HG2.out.cell 10 rfl; have q11 := HG2.out.cell 11 rfl; have q12 := HG2.out.cell 12 rfl
  clear hb hr hb2 hx2 hb3 hx3 HA0 HA1 HX0 HX1 CW
  go_wp2_with (first
    | (refine wpList_store_row rfl 35 (.tmp 5) (.tmp 14) rfl x0.heap.size #[.int .i64 0, .int .i64 0, .int .i64 0, .int .i64 0, .int .u64 0, .int .u64 0, .int .u64 0, .int .u64 0, .int .i64 0, .string ⟨#[]⟩, .int .i64 0, .int .i64 0, .int .u64 0] rfl rfl _ _ HN.out act_size rfl (by simp [Value.oneCell']) ?_)
    | (refine wpList_store_row rfl 35 (.tmp 2) (.tmp 18) rfl w.heap.size #[.int .i64 0, .int .i64 0, .int .i64 0, .int .i64 0, .int .u64 0, .int .u64 0, .int .u64 0, .int .u64 0, .int .i64 0, .string ⟨#[]⟩, .int .i64 0, .int .i64 0, .int .u64 0] rfl rfl _ _ HX2.out act_size rfl (by simp [Value.oneCell']) ?_))
  have y0 := HX3.out.cell 0 rfl; have y1 := HX3.out.cell 1 rfl; have y2 := HX3.out.cell 2 rfl; have y3 := HX3.out.cell 3 rfl; have y4 := HX3.out.cell 4 rfl; have y5 := HX3.out.cell 5 rfl; have y6 := HX3.out.cell 6 rfl; have y7 := HX3.out.cell 7 rfl; have y8 := HX3.out.cell 8 rfl; have y9 := HX3.out.cell 9 rfl; have y10 := HX3.out.cell 10 rfl; have y11 := HX3.out.cell 11 rfl; have y12 := HX3.out.cell 12 rfl
  refine bodyPost_ret (v := .tuple #[.agg #[.int .i64 0, .int .i64 0, .int .i64 0, .int .i64 0, .int .u64 0, .int .u64 0, .int .u64 0, .int .u64 0, .int .i64 0, .string ⟨#[]⟩, .int .i64 0, .int .i64 0, .int .u64 0], .bool false]) (by simp [results, Tryd.results15, go_sem, y0, y1, y2, y3, y4, y5, y6, y7, y8, y9, y10, y11, y12]) rfl ?_
  exact refToActE_no HRES.out HB3.out

theorem refToAct (s : List UInt8) (hs : s.length ≤ 4294967280) (w : World) : Calls Tryd.prog 15 #[.string ⟨s.toArray⟩] w (RefToActE s w) := by
  by_cases hl : (parts 32 s).length = 13
  · obtain ⟨w0, w1, w2, w3, w4, w5, w6, w7, w8, w9, w10, w11, w12, hp⟩ : ∃ w0 w1 w2 w3 w4 w5 w6 w7 w8 w9 w10 w11 w12, parts 32 s = [w0, w1, w2, w3, w4, w5, w6, w7, w8, w9, w10, w11, w12] := by
      match h : parts 32 s, hl with
      | [a0, a1, a2, a3, a4, a5, a6, a7, a8, a9, a10, a11, a12], _ => exact ⟨a0, a1, a2, a3, a4, a5, a6, a7, a8, a9, a10, a11, a12, rfl⟩
    cases e0 : kindOf w0 with
    | none => exact refToAct_0 s hs hp (no_of e0) w
    | some v0 =>
    cases e1 : pint w1 with
    | none => exact refToAct_1 s hs hp (yes_of e0) (no_of e1) w
    | some v1 =>
    cases e2 : pint w2 with
    | none => exact refToAct_2 s hs hp (yes_of e0) (yes_of e1) (no_of e2) w
    | some v2 =>
    cases e3 : pint w3 with
    | none => exact refToAct_3 s hs hp (yes_of e0) (yes_of e1) (yes_of e2) (no_of e3) w
    | some v3 =>
    cases e4 : pnum w4 with
    | none => exact refToAct_4 s hs hp (yes_of e0) (yes_of e1) (yes_of e2) (yes_of e3) (no_of e4) w
    | some v4 =>
    cases e5 : pnum w5 with
    | none => exact refToAct_5 s hs hp (yes_of e0) (yes_of e1) (yes_of e2) (yes_of e3) (yes_of e4) (no_of e5) w
    | some v5 =>
    cases e6 : pnum w6 with
    | none => exact refToAct_6 s hs hp (yes_of e0) (yes_of e1) (yes_of e2) (yes_of e3) (yes_of e4) (yes_of e5) (no_of e6) w
    | some v6 =>
    cases e7 : pnum w7 with
    | none => exact refToAct_7 s hs hp (yes_of e0) (yes_of e1) (yes_of e2) (yes_of e3) (yes_of e4) (yes_of e5) (yes_of e6) (no_of e7) w
    | some v7 =>
    cases e8 : pint w8 with
    | none => exact refToAct_8 s hs hp (yes_of e0) (yes_of e1) (yes_of e2) (yes_of e3) (yes_of e4) (yes_of e5) (yes_of e6) (yes_of e7) (no_of e8) w
    | some v8 =>
    cases e9 : pkey w9 with
    | none => exact refToAct_9 s hs hp (yes_of e0) (yes_of e1) (yes_of e2) (yes_of e3) (yes_of e4) (yes_of e5) (yes_of e6) (yes_of e7) (yes_of e8) (no_of e9) w
    | some v9 =>
    cases e10 : pint w10 with
    | none => exact refToAct_10 s hs hp (yes_of e0) (yes_of e1) (yes_of e2) (yes_of e3) (yes_of e4) (yes_of e5) (yes_of e6) (yes_of e7) (yes_of e8) (yes_of e9) (no_of e10) w
    | some v10 =>
    cases e11 : pint w11 with
    | none => exact refToAct_11 s hs hp (yes_of e0) (yes_of e1) (yes_of e2) (yes_of e3) (yes_of e4) (yes_of e5) (yes_of e6) (yes_of e7) (yes_of e8) (yes_of e9) (yes_of e10) (no_of e11) w
    | some v11 =>
    cases e12 : pnum w12 with
    | none => exact refToAct_12 s hs hp (yes_of e0) (yes_of e1) (yes_of e2) (yes_of e3) (yes_of e4) (yes_of e5) (yes_of e6) (yes_of e7) (yes_of e8) (yes_of e9) (yes_of e10) (yes_of e11) (no_of e12) w
    | some v12 =>
    have hk := (pkey_some e9).2
    have hw : Cm.wf ⟨v6, v7, v8, v9, v10, v11, v12⟩ := by
      have a6 := pnum_some e6
      have a7 := pnum_some e7
      have a8 := pint_some e8
      have a10 := pint_some e10
      have a11 := pint_some e11
      have a12 := pnum_some e12
      exact ⟨a6.2.1, a6.2.2, a7.2.1, a7.2.2, a8.2.1, a8.2.2, a10.2.1, a10.2.2, a11.2.1, a11.2.2, a12.2.1, a12.2.2, by simp only; omega⟩
    cases ho : Cm.ok ⟨v6, v7, v8, v9, v10, v11, v12⟩ with
    | false => exact refToAct_C s hs hp e0 e1 e2 e3 e4 e5 e6 e7 e8 e9 e10 e11 e12 ho hw w
    | true => exact refToAct_Y s hs hp e0 e1 e2 e3 e4 e5 e6 e7 e8 e9 e10 e11 e12 ho hw w
  · exact refToActLen s hs hl w
end Go.Proofs.YtcinohmhhglpjaaDoor
