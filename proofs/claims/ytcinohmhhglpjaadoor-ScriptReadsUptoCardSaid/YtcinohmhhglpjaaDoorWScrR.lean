/- Walk of ScriptReads. -/
import Derived.Test.YtcinohmhhglpjaaDoorScrQt
import Derived.Test.YtcinohmhhglpjaaDoorWScrA
namespace Go.Proofs.YtcinohmhhglpjaaDoor
open Go.RowKit

set_option maxRecDepth 20000 in
set_option maxHeartbeats 4000000 in
theorem walkScriptReadsNo (s : List UInt8) (hs : s.length ≤ 4294967280) (hr : readAct s = none) (w : World) (hE : EnvR w.heap.size w) : Calls Tryd.prog 5 #[.string ⟨s.toArray⟩] w (Yes w) := by
  have HR := Lib.hid hr
  have CA := Lib.hid (fun (W : World) (hW : EnvR W.heap.size W) => scrToAct s W (by omega) hW)
  have CB := Lib.hid (fun (W : World) => refToAct s hs W)
  have HE := Lib.hid hE
  have HEQ := Lib.hid (act_eq ⟨0, 0, 0, 0, 0, 0, ⟨0, 0, 0, [], 0, 0, 0⟩⟩)
  unfold Ap.cells Cm.cells at HEQ
  simp only [List.cons_append, List.nil_append] at HEQ
  clear hE hr
  go_enter Tryd.func5, Tryd.ntmps5
  go_wp2_with (go_at_call 14; refine (CA.out _ HE.out).mono ?_)
  intro e x1 hpp; unfold ToActE at hpp; rw [HR.out] at hpp; obtain ⟨rfl, b1⟩ := hpp
  simp only [Option.isSome_none, Bool.false_eq_true, if_false]
  have HB1 := Lib.hid b1
  have HN1 := Lib.hid (Blk.new x1 #[.int .i64 0, .int .i64 0, .int .i64 0, .int .i64 0, .int .u64 0, .int .u64 0, .int .u64 0, .int .u64 0, .int .i64 0, .string ⟨#[]⟩, .int .i64 0, .int .i64 0, .int .u64 0] 35)
  obtain ⟨hb2, hx2⟩ := row_in w x1 #[.int .i64 0, .int .i64 0, .int .i64 0, .int .i64 0, .int .u64 0, .int .u64 0, .int .u64 0, .int .u64 0, .int .i64 0, .string ⟨#[]⟩, .int .i64 0, .int .i64 0, .int .u64 0] #[.int .i64 0, .int .i64 0, .int .i64 0, .int .i64 0, .int .u64 0, .int .u64 0, .int .u64 0, .int .u64 0, .int .i64 0, .string ⟨#[]⟩, .int .i64 0, .int .i64 0, .int .u64 0] 35 HB1.out
  have HB2 := Lib.hid hb2
  have HX2 := Lib.hid hx2
  clear b1 hb2 hx2 HB1 CA
  go_wp2_with (first
    | (refine wpList_store_row rfl 35 (.tmp 3) (.tmp 10) rfl x1.heap.size #[.int .i64 0, .int .i64 0, .int .i64 0, .int .i64 0, .int .u64 0, .int .u64 0, .int .u64 0, .int .u64 0, .int .i64 0, .string ⟨#[]⟩, .int .i64 0, .int .i64 0, .int .u64 0] rfl rfl _ _ HN1.out act_size rfl (by simp [Value.oneCell']) ?_)
    | (go_at_call 15; refine (CB.out _).mono ?_))
  intro e x2 hpp; unfold RefToActE at hpp; rw [HR.out] at hpp; obtain ⟨rfl, b2⟩ := hpp
  simp only [Option.isSome_none]
  have HB3 := Lib.hid (HB2.out.trans (b2.mono HB2.out.size))
  have HX3 := Lib.hid (HX2.out.kept b2)
  have hlt := HX3.out.lt
  have HN2 := Lib.hid (Blk.new x2 #[.int .i64 0, .int .i64 0, .int .i64 0, .int .i64 0, .int .u64 0, .int .u64 0, .int .u64 0, .int .u64 0, .int .i64 0, .string ⟨#[]⟩, .int .i64 0, .int .i64 0, .int .u64 0] 35)
  obtain ⟨hb4, hx4⟩ := row_in w x2 #[.int .i64 0, .int .i64 0, .int .i64 0, .int .i64 0, .int .u64 0, .int .u64 0, .int .u64 0, .int .u64 0, .int .i64 0, .string ⟨#[]⟩, .int .i64 0, .int .i64 0, .int .u64 0] #[.int .i64 0, .int .i64 0, .int .i64 0, .int .i64 0, .int .u64 0, .int .u64 0, .int .u64 0, .int .u64 0, .int .i64 0, .string ⟨#[]⟩, .int .i64 0, .int .i64 0, .int .u64 0] 35 HB3.out
  have HB4 := Lib.hid hb4
  have HX4 := Lib.hid hx4
  have HX5 : Hid (Blk ((x2.alloc (.cells #[.int .i64 0, .int .i64 0, .int .i64 0, .int .i64 0, .int .u64 0, .int .u64 0, .int .u64 0, .int .u64 0, .int .i64 0, .string ⟨#[]⟩, .int .i64 0, .int .i64 0, .int .u64 0] 35)).setRow x2.heap.size #[.int .i64 0, .int .i64 0, .int .i64 0, .int .i64 0, .int .u64 0, .int .u64 0, .int .u64 0, .int .u64 0, .int .i64 0, .string ⟨#[]⟩, .int .i64 0, .int .i64 0, .int .u64 0]) x1.heap.size 35 #[.int .i64 0, .int .i64 0, .int .i64 0, .int .i64 0, .int .u64 0, .int .u64 0, .int .u64 0, .int .u64 0, .int .i64 0, .string ⟨#[]⟩, .int .i64 0, .int .i64 0, .int .u64 0]) := Lib.hid ((HX3.out.kept ((Below.refl _ _).alloc (Nat.le_refl _) _)).setRow_other (k := x2.heap.size) #[.int .i64 0, .int .i64 0, .int .i64 0, .int .i64 0, .int .u64 0, .int .u64 0, .int .u64 0, .int .u64 0, .int .i64 0, .string ⟨#[]⟩, .int .i64 0, .int .i64 0, .int .u64 0] (by omega))
  have HE4 := Lib.hid ((HE.out.below HB4.out).up HB4.out.size)
  clear b2 hb4 hx4 HB2 HB3 HX2 HX3 CB HN1
  go_wp2_with (first
    | (refine wpList_store_row rfl 35 (.tmp 5) (.tmp 15) rfl x2.heap.size #[.int .i64 0, .int .i64 0, .int .i64 0, .int .i64 0, .int .u64 0, .int .u64 0, .int .u64 0, .int .u64 0, .int .i64 0, .string ⟨#[]⟩, .int .i64 0, .int .i64 0, .int .u64 0] rfl rfl _ _ HN2.out act_size rfl (by simp [Value.oneCell']) ?_)
    | (go_at_call 11; refine (scrAnswers _ HE4.out.env).mono ?_))
  first | rintro e x3 ⟨rfl, b3⟩ | rintro e x3 rfl b3
  replace b3 : Below (((x2.alloc (.cells #[.int .i64 0, .int .i64 0, .int .i64 0, .int .i64 0, .int .u64 0, .int .u64 0, .int .u64 0, .int .u64 0, .int .i64 0, .string ⟨#[]⟩, .int .i64 0, .int .i64 0, .int .u64 0] 35)).setRow x2.heap.size #[.int .i64 0, .int .i64 0, .int .i64 0, .int .i64 0, .int .u64 0, .int .u64 0, .int .u64 0, .int .u64 0, .int .i64 0, .string ⟨#[]⟩, .int .i64 0, .int .i64 0, .int .u64 0])).heap.size ((x2.alloc (.cells #[.int .i64 0, .int .i64 0, .int .i64 0, .int .i64 0, .int .u64 0, .int .u64 0, .int .u64 0, .int .u64 0, .int .i64 0, .string ⟨#[]⟩, .int .i64 0, .int .i64 0, .int .u64 0] 35)).setRow x2.heap.size #[.int .i64 0, .int .i64 0, .int .i64 0, .int .i64 0, .int .u64 0, .int .u64 0, .int .u64 0, .int .u64 0, .int .i64 0, .string ⟨#[]⟩, .int .i64 0, .int .i64 0, .int .u64 0]) x3 := by simpa using b3
  have HB5 := Lib.hid (HB4.out.trans (b3.mono HB4.out.size))
  have HX6 := Lib.hid (HX4.out.kept b3)
  have HX7 := Lib.hid (HX5.out.kept b3)
  clear b3 HB4 HX4 HX5 HE4
  have q0 := HX6.out.cell 0 rfl; have q1 := HX6.out.cell 1 rfl; have q2 := HX6.out.cell 2 rfl; have q3 := HX6.out.cell 3 rfl; have q4 := HX6.out.cell 4 rfl; have q5 := HX6.out.cell 5 rfl; have q6 := HX6.out.cell 6 rfl; have q7 := HX6.out.cell 7 rfl; have q8 := HX6.out.cell 8 rfl; have q9 := HX6.out.cell 9 rfl; have q10 := HX6.out.cell 10 rfl; have q11 := HX6.out.cell 11 rfl; have q12 := HX6.out.cell 12 rfl
  have p0 := HX7.out.cell 0 rfl; have p1 := HX7.out.cell 1 rfl; have p2 := HX7.out.cell 2 rfl; have p3 := HX7.out.cell 3 rfl; have p4 := HX7.out.cell 4 rfl; have p5 := HX7.out.cell 5 rfl; have p6 := HX7.out.cell 6 rfl; have p7 := HX7.out.cell 7 rfl; have p8 := HX7.out.cell 8 rfl; have p9 := HX7.out.cell 9 rfl; have p10 := HX7.out.cell 10 rfl; have p11 := HX7.out.cell 11 rfl; have p12 := HX7.out.cell 12 rfl
  have heq := HEQ.out x3
  go_wp2_with fail
  go_ret
  exact ⟨rfl, HB5.out⟩

set_option maxRecDepth 20000 in
set_option maxHeartbeats 4000000 in
theorem walkScriptReadsYes (s : List UInt8) (hs : s.length ≤ 4294967280) {kind ka kb kn kdraw kmask ses seq op amount span lease : Int} {key : List UInt8} (hr : readAct s = some ⟨kind, ka, kb, kn, kdraw, kmask, ⟨ses, seq, op, key, amount, span, lease⟩⟩) (w : World) (hE : EnvR w.heap.size w) : Calls Tryd.prog 5 #[.string ⟨s.toArray⟩] w (Yes w) := by
  have HR := Lib.hid hr
  have CA := Lib.hid (fun (W : World) (hW : EnvR W.heap.size W) => scrToAct s W (by omega) hW)
  have CB := Lib.hid (fun (W : World) => refToAct s hs W)
  have HE := Lib.hid hE
  have HEQ := Lib.hid (act_eq ⟨kind, ka, kb, kn, kdraw, kmask, ⟨ses, seq, op, key, amount, span, lease⟩⟩)
  unfold Ap.cells Cm.cells at HEQ
  simp only [List.cons_append, List.nil_append] at HEQ
  clear hE hr
  go_enter Tryd.func5, Tryd.ntmps5
  go_wp2_with (go_at_call 14; refine (CA.out _ HE.out).mono ?_)
  intro e x1 hpp; unfold ToActE at hpp; rw [HR.out] at hpp; obtain ⟨rfl, b1⟩ := hpp
  unfold Ap.cells Cm.cells
  simp only [List.cons_append, List.nil_append, Option.isSome_some, if_true]
  have HB1 := Lib.hid b1
  have HN1 := Lib.hid (Blk.new x1 #[.int .i64 0, .int .i64 0, .int .i64 0, .int .i64 0, .int .u64 0, .int .u64 0, .int .u64 0, .int .u64 0, .int .i64 0, .string ⟨#[]⟩, .int .i64 0, .int .i64 0, .int .u64 0] 35)
  obtain ⟨hb2, hx2⟩ := row_in w x1 #[.int .i64 0, .int .i64 0, .int .i64 0, .int .i64 0, .int .u64 0, .int .u64 0, .int .u64 0, .int .u64 0, .int .i64 0, .string ⟨#[]⟩, .int .i64 0, .int .i64 0, .int .u64 0] #[.int .i64 kind, .int .i64 ka, .int .i64 kb, .int .i64 kn, .int .u64 kdraw, .int .u64 kmask, .int .u64 ses, .int .u64 seq, .int .i64 op, .string ⟨key.toArray⟩, .int .i64 amount, .int .i64 span, .int .u64 lease] 35 HB1.out
  have HB2 := Lib.hid hb2
  have HX2 := Lib.hid hx2
  clear b1 hb2 hx2 HB1 CA
  go_wp2_with (first
    | (refine wpList_store_row rfl 35 (.tmp 3) (.tmp 10) rfl x1.heap.size #[.int .i64 kind, .int .i64 ka, .int .i64 kb, .int .i64 kn, .int .u64 kdraw, .int .u64 kmask, .int .u64 ses, .int .u64 seq, .int .i64 op, .string ⟨key.toArray⟩, .int .i64 amount, .int .i64 span, .int .u64 lease] rfl rfl _ _ HN1.out act_size rfl (by simp [Value.oneCell']) ?_)
    | (go_at_call 15; refine (CB.out _).mono ?_))
  intro e x2 hpp; unfold RefToActE at hpp; rw [HR.out] at hpp; obtain ⟨rfl, b2⟩ := hpp
  unfold Ap.cells Cm.cells
  simp only [List.cons_append, List.nil_append, Option.isSome_some]
  have HB3 := Lib.hid (HB2.out.trans (b2.mono HB2.out.size))
  have HX3 := Lib.hid (HX2.out.kept b2)
  have hlt := HX3.out.lt
  have HN2 := Lib.hid (Blk.new x2 #[.int .i64 0, .int .i64 0, .int .i64 0, .int .i64 0, .int .u64 0, .int .u64 0, .int .u64 0, .int .u64 0, .int .i64 0, .string ⟨#[]⟩, .int .i64 0, .int .i64 0, .int .u64 0] 35)
  obtain ⟨hb4, hx4⟩ := row_in w x2 #[.int .i64 0, .int .i64 0, .int .i64 0, .int .i64 0, .int .u64 0, .int .u64 0, .int .u64 0, .int .u64 0, .int .i64 0, .string ⟨#[]⟩, .int .i64 0, .int .i64 0, .int .u64 0] #[.int .i64 kind, .int .i64 ka, .int .i64 kb, .int .i64 kn, .int .u64 kdraw, .int .u64 kmask, .int .u64 ses, .int .u64 seq, .int .i64 op, .string ⟨key.toArray⟩, .int .i64 amount, .int .i64 span, .int .u64 lease] 35 HB3.out
  have HB4 := Lib.hid hb4
  have HX4 := Lib.hid hx4
  have HX5 : Hid (Blk ((x2.alloc (.cells #[.int .i64 0, .int .i64 0, .int .i64 0, .int .i64 0, .int .u64 0, .int .u64 0, .int .u64 0, .int .u64 0, .int .i64 0, .string ⟨#[]⟩, .int .i64 0, .int .i64 0, .int .u64 0] 35)).setRow x2.heap.size #[.int .i64 kind, .int .i64 ka, .int .i64 kb, .int .i64 kn, .int .u64 kdraw, .int .u64 kmask, .int .u64 ses, .int .u64 seq, .int .i64 op, .string ⟨key.toArray⟩, .int .i64 amount, .int .i64 span, .int .u64 lease]) x1.heap.size 35 #[.int .i64 kind, .int .i64 ka, .int .i64 kb, .int .i64 kn, .int .u64 kdraw, .int .u64 kmask, .int .u64 ses, .int .u64 seq, .int .i64 op, .string ⟨key.toArray⟩, .int .i64 amount, .int .i64 span, .int .u64 lease]) := Lib.hid ((HX3.out.kept ((Below.refl _ _).alloc (Nat.le_refl _) _)).setRow_other (k := x2.heap.size) #[.int .i64 kind, .int .i64 ka, .int .i64 kb, .int .i64 kn, .int .u64 kdraw, .int .u64 kmask, .int .u64 ses, .int .u64 seq, .int .i64 op, .string ⟨key.toArray⟩, .int .i64 amount, .int .i64 span, .int .u64 lease] (by omega))
  have HE4 := Lib.hid ((HE.out.below HB4.out).up HB4.out.size)
  clear b2 hb4 hx4 HB2 HB3 HX2 HX3 CB HN1
  go_wp2_with (first
    | (refine wpList_store_row rfl 35 (.tmp 5) (.tmp 15) rfl x2.heap.size #[.int .i64 kind, .int .i64 ka, .int .i64 kb, .int .i64 kn, .int .u64 kdraw, .int .u64 kmask, .int .u64 ses, .int .u64 seq, .int .i64 op, .string ⟨key.toArray⟩, .int .i64 amount, .int .i64 span, .int .u64 lease] rfl rfl _ _ HN2.out act_size rfl (by simp [Value.oneCell']) ?_)
    | (go_at_call 11; refine (scrAnswers _ HE4.out.env).mono ?_))
  first | rintro e x3 ⟨rfl, b3⟩ | rintro e x3 rfl b3
  replace b3 : Below (((x2.alloc (.cells #[.int .i64 0, .int .i64 0, .int .i64 0, .int .i64 0, .int .u64 0, .int .u64 0, .int .u64 0, .int .u64 0, .int .i64 0, .string ⟨#[]⟩, .int .i64 0, .int .i64 0, .int .u64 0] 35)).setRow x2.heap.size #[.int .i64 kind, .int .i64 ka, .int .i64 kb, .int .i64 kn, .int .u64 kdraw, .int .u64 kmask, .int .u64 ses, .int .u64 seq, .int .i64 op, .string ⟨key.toArray⟩, .int .i64 amount, .int .i64 span, .int .u64 lease])).heap.size ((x2.alloc (.cells #[.int .i64 0, .int .i64 0, .int .i64 0, .int .i64 0, .int .u64 0, .int .u64 0, .int .u64 0, .int .u64 0, .int .i64 0, .string ⟨#[]⟩, .int .i64 0, .int .i64 0, .int .u64 0] 35)).setRow x2.heap.size #[.int .i64 kind, .int .i64 ka, .int .i64 kb, .int .i64 kn, .int .u64 kdraw, .int .u64 kmask, .int .u64 ses, .int .u64 seq, .int .i64 op, .string ⟨key.toArray⟩, .int .i64 amount, .int .i64 span, .int .u64 lease]) x3 := by simpa using b3
  have HB5 := Lib.hid (HB4.out.trans (b3.mono HB4.out.size))
  have HX6 := Lib.hid (HX4.out.kept b3)
  have HX7 := Lib.hid (HX5.out.kept b3)
  clear b3 HB4 HX4 HX5 HE4
  have q0 := HX6.out.cell 0 rfl; have q1 := HX6.out.cell 1 rfl; have q2 := HX6.out.cell 2 rfl; have q3 := HX6.out.cell 3 rfl; have q4 := HX6.out.cell 4 rfl; have q5 := HX6.out.cell 5 rfl; have q6 := HX6.out.cell 6 rfl; have q7 := HX6.out.cell 7 rfl; have q8 := HX6.out.cell 8 rfl; have q9 := HX6.out.cell 9 rfl; have q10 := HX6.out.cell 10 rfl; have q11 := HX6.out.cell 11 rfl; have q12 := HX6.out.cell 12 rfl
  have p0 := HX7.out.cell 0 rfl; have p1 := HX7.out.cell 1 rfl; have p2 := HX7.out.cell 2 rfl; have p3 := HX7.out.cell 3 rfl; have p4 := HX7.out.cell 4 rfl; have p5 := HX7.out.cell 5 rfl; have p6 := HX7.out.cell 6 rfl; have p7 := HX7.out.cell 7 rfl; have p8 := HX7.out.cell 8 rfl; have p9 := HX7.out.cell 9 rfl; have p10 := HX7.out.cell 10 rfl; have p11 := HX7.out.cell 11 rfl; have p12 := HX7.out.cell 12 rfl
  have heq := HEQ.out x3
  go_wp2_with fail
  go_ret
  exact ⟨rfl, HB5.out⟩

theorem walkScriptReads (s : List UInt8) (hs : s.length ≤ 1048576) (w : World) (hl : laidMetH Tryd.prog Rows.scriptReadsUptoRow.laid w) (hsh : w.ShapedOpen Tryd.prog) : Calls Tryd.prog 5 #[.string ⟨s.toArray⟩] w (Yes w) := by
  have hE := envR_of hl (by kernel_rfl) hsh (by simp [Rows.scriptReadsUptoRow]) (by simp [Rows.scriptReadsUptoRow]) (by simp [Rows.scriptReadsUptoRow]) (by simp [Rows.scriptReadsUptoRow])
  cases hr : readAct s with
  | none => exact walkScriptReadsNo s (by omega) hr w hE
  | some a =>
    obtain ⟨kind, ka, kb, kn, kdraw, kmask, ⟨ses, seq, op, key, amount, span, lease⟩⟩ := a
    exact walkScriptReadsYes s (by omega) hr w hE
end Go.Proofs.YtcinohmhhglpjaaDoor
