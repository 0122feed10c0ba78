/- Walk of ScriptActs. -/
import Derived.Test.YtcinohmhhglpjaaDoorScrTA
import Derived.Test.YtcinohmhhglpjaaDoorEnvR
namespace Go.Proofs.YtcinohmhhglpjaaDoor
open Go.RowKit

set_option maxRecDepth 20000 in
set_option maxHeartbeats 4000000 in
theorem walkScriptActs' (a : Ap) (ha : a.wf) (w : World) (hE : EnvR w.heap.size w) : Calls Tryd.prog 4 #[.agg a.cells.toArray] w (Yes w) := by
  have CA := Lib.hid (scrAct a ha)
  have CR := Lib.hid (refAct a ha)
  have HE := Lib.hid hE
  have HEQ := Lib.hid (act_eq a)
  have HRL := Lib.hid (readAct_line ha)
  have HLL := Lib.hid (Ap.line_len ha)
  unfold ActE at CA
  unfold RefActE at CR
  obtain ⟨kind, ka, kb, kn, kdraw, kmask, ⟨ses, seq, op, key, amount, span, lease⟩⟩ := a
  have hb0 : Below w.heap.size w (w.alloc (.cells #[.int .i64 kind, .int .i64 ka, .int .i64 kb, .int .i64 kn, .int .u64 kdraw, .int .u64 kmask, .int .u64 ses, .int .u64 seq, .int .i64 op, .string ⟨key.toArray⟩, .int .i64 amount, .int .i64 span, .int .u64 lease] 35)) := (Below.refl _ _).alloc (Nat.le_refl _) _
  have HB0 := Lib.hid hb0
  have HX0 := Lib.hid (Blk.new w #[.int .i64 kind, .int .i64 ka, .int .i64 kb, .int .i64 kn, .int .u64 kdraw, .int .u64 kmask, .int .u64 ses, .int .u64 seq, .int .i64 op, .string ⟨key.toArray⟩, .int .i64 amount, .int .i64 span, .int .u64 lease] 35)
  have HE0 := Lib.hid ((hE.below hb0).up hb0.size)
  unfold Ap.cells Cm.cells at *
  simp only [List.cons_append, List.nil_append] at *
  clear ha hE hb0
  cases hok : Ap.ok ⟨kind, ka, kb, kn, kdraw, kmask, ⟨ses, seq, op, key, amount, span, lease⟩⟩
  · rw [hok] at CA CR
    simp only [Bool.false_eq_true, if_false] at CA CR
    clear hok HRL HLL HEQ
    go_enter Tryd.func4, Tryd.ntmps4
    go_wp2_with (go_at_call 12; refine (CA.out _ HE0.out.env).mono ?_)
    first | rintro e w1 rfl b1 | rintro e w1 ⟨rfl, b1⟩
    have HB1 := Lib.hid (HB0.out.trans (b1.mono HB0.out.size))
    have HX1 := Lib.hid (HX0.out.kept b1)
    clear b1 HB0 HX0
    have c0 := HX1.out.cell 0 rfl; have c1 := HX1.out.cell 1 rfl; have c2 := HX1.out.cell 2 rfl; have c3 := HX1.out.cell 3 rfl; have c4 := HX1.out.cell 4 rfl; have c5 := HX1.out.cell 5 rfl; have c6 := HX1.out.cell 6 rfl; have c7 := HX1.out.cell 7 rfl; have c8 := HX1.out.cell 8 rfl; have c9 := HX1.out.cell 9 rfl; have c10 := HX1.out.cell 10 rfl; have c11 := HX1.out.cell 11 rfl; have c12 := HX1.out.cell 12 rfl
    go_wp2_with (go_at_call 13; refine (CR.out _).mono ?_)
    first | rintro e w2 rfl b2 | rintro e w2 ⟨rfl, b2⟩
    have HB2 := Lib.hid (HB1.out.trans (b2.mono HB1.out.size))
    have HE2 := Lib.hid ((HE.out.below HB2.out).up HB2.out.size)
    clear b2 HB1
    go_wp2_with (go_at_call 11; refine (scrAnswers _ HE2.out.env).mono ?_)
    first | rintro e w3 rfl b3 | rintro e w3 ⟨rfl, b3⟩
    go_wp2_with fail
    go_ret
    exact ⟨rfl, HB2.out.trans (b3.mono HB2.out.size)⟩
  · have hRL := HRL.out hok
    have hLL := HLL.out hok
    have CT := Lib.hid (fun W (hW : EnvR W.heap.size W) => scrToAct (Ap.line ⟨kind, ka, kb, kn, kdraw, kmask, ⟨ses, seq, op, key, amount, span, lease⟩⟩) W (by omega) hW)
    unfold ToActE at CT
    rw [hRL] at CT
    unfold Ap.cells Cm.cells at CT
    simp only [List.cons_append, List.nil_append, Option.isSome_some] at CT
    rw [hok] at CA CR
    simp only [if_true] at CA CR CT
    clear hok hRL HRL HLL
    generalize Ap.line ⟨kind, ka, kb, kn, kdraw, kmask, ⟨ses, seq, op, key, amount, span, lease⟩⟩ = ln at *
    go_enter Tryd.func4, Tryd.ntmps4
    go_wp2_with (go_at_call 12; refine (CA.out _ HE0.out.env).mono ?_)
    first | rintro e w1 rfl b1 | rintro e w1 ⟨rfl, b1⟩
    have HB1 := Lib.hid (HB0.out.trans (b1.mono HB0.out.size))
    have HX1 := Lib.hid (HX0.out.kept b1)
    clear b1 HB0 HX0
    have c0 := HX1.out.cell 0 rfl; have c1 := HX1.out.cell 1 rfl; have c2 := HX1.out.cell 2 rfl; have c3 := HX1.out.cell 3 rfl; have c4 := HX1.out.cell 4 rfl; have c5 := HX1.out.cell 5 rfl; have c6 := HX1.out.cell 6 rfl; have c7 := HX1.out.cell 7 rfl; have c8 := HX1.out.cell 8 rfl; have c9 := HX1.out.cell 9 rfl; have c10 := HX1.out.cell 10 rfl; have c11 := HX1.out.cell 11 rfl; have c12 := HX1.out.cell 12 rfl
    go_wp2_with (go_at_call 13; refine (CR.out _).mono ?_)
    first | rintro e w2 rfl b2 | rintro e w2 ⟨rfl, b2⟩
    have HB2 := Lib.hid (HB1.out.trans (b2.mono HB1.out.size))
    have HE2 := Lib.hid ((HE.out.below HB2.out).up HB2.out.size)
    have HX2 := Lib.hid (HX1.out.kept b2)
    clear b2 HB1 HX1
    clear c0 c1 c2 c3 c4 c5 c6 c7 c8 c9 c10 c11 c12
    go_wp2_with (go_at_call 11; refine (scrAnswers _ HE2.out.env).mono ?_)
    first | rintro e w3 rfl b3 | rintro e w3 ⟨rfl, b3⟩
    have HB3 := Lib.hid (HB2.out.trans (b3.mono HB2.out.size))
    have HE3 := Lib.hid ((HE.out.below HB3.out).up HB3.out.size)
    have HX3 := Lib.hid (HX2.out.kept b3)
    clear b3 HB2 HX2 HE2
    go_wp2_with (go_at_call 14; refine (CT.out _ HE3.out).mono ?_)
    first | rintro e w4 rfl b4 | rintro e w4 ⟨rfl, b4⟩
    have HB4 := Lib.hid (HB3.out.trans (b4.mono HB3.out.size))
    have HX4 := Lib.hid (HX3.out.kept b4)
    have hlt := HX4.out.lt
    have HN := Lib.hid (Blk.new w4 #[.int .i64 0, .int .i64 0, .int .i64 0, .int .i64 0, .int .u64 0, .int .u64 0, .int .u64 0, .int .u64 0, .int .i64 0, .string ⟨#[]⟩, .int .i64 0, .int .i64 0, .int .u64 0] 35)
    obtain ⟨hb5, hx5⟩ := row_in w w4 #[.int .i64 0, .int .i64 0, .int .i64 0, .int .i64 0, .int .u64 0, .int .u64 0, .int .u64 0, .int .u64 0, .int .i64 0, .string ⟨#[]⟩, .int .i64 0, .int .i64 0, .int .u64 0] #[.int .i64 kind, .int .i64 ka, .int .i64 kb, .int .i64 kn, .int .u64 kdraw, .int .u64 kmask, .int .u64 ses, .int .u64 seq, .int .i64 op, .string ⟨key.toArray⟩, .int .i64 amount, .int .i64 span, .int .u64 lease] 35 HB4.out
    have HB5 := Lib.hid hb5
    have HX5 := Lib.hid hx5
    have HX6 : Hid (Blk ((w4.alloc (.cells #[.int .i64 0, .int .i64 0, .int .i64 0, .int .i64 0, .int .u64 0, .int .u64 0, .int .u64 0, .int .u64 0, .int .i64 0, .string ⟨#[]⟩, .int .i64 0, .int .i64 0, .int .u64 0] 35)).setRow w4.heap.size #[.int .i64 kind, .int .i64 ka, .int .i64 kb, .int .i64 kn, .int .u64 kdraw, .int .u64 kmask, .int .u64 ses, .int .u64 seq, .int .i64 op, .string ⟨key.toArray⟩, .int .i64 amount, .int .i64 span, .int .u64 lease]) w.heap.size 35 #[.int .i64 kind, .int .i64 ka, .int .i64 kb, .int .i64 kn, .int .u64 kdraw, .int .u64 kmask, .int .u64 ses, .int .u64 seq, .int .i64 op, .string ⟨key.toArray⟩, .int .i64 amount, .int .i64 span, .int .u64 lease]) := Lib.hid ((HX4.out.kept ((Below.refl _ _).alloc (Nat.le_refl _) _)).setRow_other (k := w4.heap.size) #[.int .i64 kind, .int .i64 ka, .int .i64 kb, .int .i64 kn, .int .u64 kdraw, .int .u64 kmask, .int .u64 ses, .int .u64 seq, .int .i64 op, .string ⟨key.toArray⟩, .int .i64 amount, .int .i64 span, .int .u64 lease] (by omega))
    clear b4 hb5 hx5 HB3 HX3 HE3 CT
    have heq := HEQ.out ((w4.alloc (.cells #[.int .i64 0, .int .i64 0, .int .i64 0, .int .i64 0, .int .u64 0, .int .u64 0, .int .u64 0, .int .u64 0, .int .i64 0, .string ⟨#[]⟩, .int .i64 0, .int .i64 0, .int .u64 0] 35)).setRow w4.heap.size #[.int .i64 kind, .int .i64 ka, .int .i64 kb, .int .i64 kn, .int .u64 kdraw, .int .u64 kmask, .int .u64 ses, .int .u64 seq, .int .i64 op, .string ⟨key.toArray⟩, .int .i64 amount, .int .i64 span, .int .u64 lease])
    go_wp2_with (refine wpList_store_row rfl 35 (.tmp 7) (.tmp 32) rfl w4.heap.size #[.int .i64 kind, .int .i64 ka, .int .i64 kb, .int .i64 kn, .int .u64 kdraw, .int .u64 kmask, .int .u64 ses, .int .u64 seq, .int .i64 op, .string ⟨key.toArray⟩, .int .i64 amount, .int .i64 span, .int .u64 lease] rfl rfl _ _ HN.out act_size rfl (by simp [Value.oneCell']) ?_; have q0 := HX5.out.cell 0 rfl; have q1 := HX5.out.cell 1 rfl; have q2 := HX5.out.cell 2 rfl; have q3 := HX5.out.cell 3 rfl; have q4 := HX5.out.cell 4 rfl; have q5 := HX5.out.cell 5 rfl; have q6 := HX5.out.cell 6 rfl; have q7 := HX5.out.cell 7 rfl; have q8 := HX5.out.cell 8 rfl; have q9 := HX5.out.cell 9 rfl; have q10 := HX5.out.cell 10 rfl; have q11 := HX5.out.cell 11 rfl; have q12 := HX5.out.cell 12 rfl; have p0 := HX6.out.cell 0 rfl; have p1 := HX6.out.cell 1 rfl; have p2 := HX6.out.cell 2 rfl; have p3 := HX6.out.cell 3 rfl; have p4 := HX6.out.cell 4 rfl; have p5 := HX6.out.cell 5 rfl; have p6 := HX6.out.cell 6 rfl; have p7 := HX6.out.cell 7 rfl; have p8 := HX6.out.cell 8 rfl; have p9 := HX6.out.cell 9 rfl; have p10 := HX6.out.cell 10 rfl; have p11 := HX6.out.cell 11 rfl; have p12 := HX6.out.cell 12 rfl)
    go_ret
    exact ⟨rfl, HB5.out⟩

theorem walkScriptActs (R : List Fv) (w : World) (hR : rowOk w [.int .i64, .int .i64, .int .i64, .int .i64, .int .u64, .int .u64, .int .u64, .int .u64, .int .i64, .str, .int .i64, .int .i64, .int .u64] R) (hl : laidMetH Tryd.prog Rows.scriptActsRow.laid w) (hsh : w.ShapedOpen Tryd.prog) :
    Calls Tryd.prog 4 #[.agg (R.map Fv.val).toArray] w (Yes w) := by
  obtain ⟨a, e1, e2⟩ := act_of hR
  rw [e1]
  exact walkScriptActs' a e2 w (envR_of hl (by kernel_rfl) hsh (by simp [Rows.scriptActsRow]) (by simp [Rows.scriptActsRow]) (by simp [Rows.scriptActsRow]) (by simp [Rows.scriptActsRow]))
end Go.Proofs.YtcinohmhhglpjaaDoor
