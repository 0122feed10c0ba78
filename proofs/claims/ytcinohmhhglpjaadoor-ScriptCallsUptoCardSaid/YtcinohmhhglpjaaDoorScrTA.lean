/- ScrTA: put together by merge.py of: ScrEq, ScrTA. -/
import Derived.Test.YtcinohmhhglpjaaDoorScrRA
import Derived.Test.YtcinohmhhglpjaaDoorWScrW
/- '==' of commands, of acts. -/
namespace Go.Proofs.YtcinohmhhglpjaaDoor
open Go.RowKit

theorem cmd_eq (c d : Cm) (w : World) (n : Nat) : (Op.equalIn (n + 2) 33 (.agg c.cells.toArray) (.agg d.cells.toArray)).run Tryd.prog w = .ok (decide (c = d)) w := by
  have u1 := Tryd.underlying3
  have a1 := Tryd.isAgg3
  have z1 := Tryd.sizeOf3
  have u2 := Tryd.underlying2
  have a2 := Tryd.isAgg2
  have z2 := Tryd.sizeOf2
  have u3 := Tryd.underlying31
  have a3 := Tryd.isAgg31
  have z3 := Tryd.sizeOf31
  have u4 := Tryd.underlying9
  have a4 := Tryd.isAgg9
  have z4 := Tryd.sizeOf9
  have hS := Tryd.underlying33
  unfold Op.equalIn
  simp only [Sem.run_bind, run_underlying hS, Result.andThen_ok]
  unfold Cm.cells
  go_simp
  by_cases h : c = d
  · subst h; simp
  · rw [decide_eq_false h]
    have hn : ¬ (c.ses = d.ses ∧ c.seq = d.seq ∧ c.op = d.op ∧ c.key = d.key ∧ c.amount = d.amount ∧ c.span = d.span ∧ c.lease = d.lease) := fun e => h (Cm.ext_iff'.2 e)
    by_cases h1 : c.ses = d.ses
    · by_cases h2 : c.seq = d.seq
      · by_cases h3 : c.op = d.op
        · by_cases h4 : c.key = d.key
          · by_cases h5 : c.amount = d.amount
            · by_cases h6 : c.span = d.span
              · by_cases h7 : c.lease = d.lease
                · exact absurd ⟨h1, h2, h3, h4, h5, h6, h7⟩ hn
                · simp [h1, h2, h3, h4, h5, h6, h7]
              · simp [h1, h2, h3, h4, h5, h6]
            · simp [h1, h2, h3, h4, h5]
          · simp [h1, h2, h3, h4]
        · simp [h1, h2, h3]
      · simp [h1, h2]
    · simp [h1]
theorem act_eq (a : Ap) (w : World) : (Op.equalIn 10000 35 (.agg a.cells.toArray) (.agg a.cells.toArray)).run Tryd.prog w = .ok true w := by
  have u1 := Tryd.underlying3
  have a1 := Tryd.isAgg3
  have z1 := Tryd.sizeOf3
  have u2 := Tryd.underlying2
  have a2 := Tryd.isAgg2
  have z2 := Tryd.sizeOf2
  have u3 := Tryd.underlying31
  have a3 := Tryd.isAgg31
  have z3 := Tryd.sizeOf31
  have u4 := Tryd.underlying9
  have a4 := Tryd.isAgg9
  have z4 := Tryd.sizeOf9
  have hS := Tryd.underlying35
  have hC := cmd_eq a.cmd a.cmd
  rw [show (10000 : Nat) = 9999 + 1 from rfl]
  unfold Op.equalIn
  simp only [Sem.run_bind, run_underlying hS, Result.andThen_ok]
  unfold Ap.cells
  unfold Cm.cells at *
  go_simp
end Go.Proofs.YtcinohmhhglpjaaDoor
/- Contracts of package script: ToAct. Walk of ScriptActs. -/
namespace Go.Proofs.YtcinohmhhglpjaaDoor
open Go.RowKit

def zeroAct : Array Value := #[.int .i64 0, .int .i64 0, .int .i64 0, .int .i64 0, .int .u64 0, .int .u64 0, .int .u64 0, .int .u64 0, .int .i64 0, .string ⟨#[]⟩, .int .i64 0, .int .i64 0, .int .u64 0]
/-- What ToAct answers. -/
def ToActE (s : List UInt8) (w : World) (e : Ending) (w' : World) : Prop :=
  e = .returned (.tuple #[.agg (match readAct s with | some x => x.cells.toArray | none => #[.int .i64 0, .int .i64 0, .int .i64 0, .int .i64 0, .int .u64 0, .int .u64 0, .int .u64 0, .int .u64 0, .int .i64 0, .string ⟨#[]⟩, .int .i64 0, .int .i64 0, .int .u64 0]), .int .i64 (if (readAct s).isSome then 0 else 4)]) ∧ Below w.heap.size w w'
theorem toActE_no {s : List UInt8} {w w' : World} (h : readAct s = none) (hb : Below w.heap.size w w') : ToActE s w (.returned (.tuple #[.agg #[.int .i64 0, .int .i64 0, .int .i64 0, .int .i64 0, .int .u64 0, .int .u64 0, .int .u64 0, .int .u64 0, .int .i64 0, .string ⟨#[]⟩, .int .i64 0, .int .i64 0, .int .u64 0], .int .i64 4])) w' := by
  unfold ToActE; rw [h]; exact ⟨rfl, hb⟩
theorem toActE_yes {s : List UInt8} {w w' : World} {x : Ap} {cs : Array Value} (h : readAct s = some x) (hv : cs = x.cells.toArray) (hb : Below w.heap.size w w') : ToActE s w (.returned (.tuple #[.agg cs, .int .i64 0])) w' := by
  subst hv; unfold ToActE; rw [h]; exact ⟨rfl, hb⟩
/-- A row laid into a new block, in some world. -/
theorem row_in (w0 w : World) (cs ds : Array Value) (Ty : TypeId) (h : Below w0.heap.size w0 w) : Below w0.heap.size w0 ((w.alloc (.cells cs Ty)).setRow w.heap.size ds) ∧ Blk ((w.alloc (.cells cs Ty)).setRow w.heap.size ds) w.heap.size Ty ds :=
  ⟨h.trans ((laid_row w cs ds Ty).1.mono h.size), (laid_row w cs ds Ty).2⟩
theorem set_in {w0 w : World} {g : Nat} {Ty : TypeId} {cs : Array Value} (ds : Array Value) (h : Below w0.heap.size w0 w) (hb : Blk w g Ty cs) (hg : w0.heap.size ≤ g) : Below w0.heap.size w0 (w.setRow g ds) ∧ Blk (w.setRow g ds) g Ty ds :=
  ⟨⟨h.os, h.tape, h.output, by simpa using h.size, fun i hi => (Go.setRow_other _ _ _ _ (by omega)).trans (h.block i hi)⟩, hb.setRow ds⟩

set_option maxRecDepth 20000 in
set_option maxHeartbeats 4000000 in
theorem scrToAct (s : List UInt8) (w : World) (hs : s.length < 4294967281) (hE : EnvR w.heap.size w) : Calls Tryd.prog 14 #[.string ⟨s.toArray⟩] w (ToActE s w) := by
  have hb0 : Below w.heap.size w (w.alloc (.cells #[.int .i64 0, .int .i64 0, .int .i64 0, .int .i64 0, .int .u64 0, .int .u64 0, .int .u64 0, .int .u64 0, .int .i64 0, .string ⟨#[]⟩, .int .i64 0, .int .i64 0, .int .u64 0] 35)) := (Below.refl _ _).alloc (Nat.le_refl _) _
  have HX0 := Lib.hid (Blk.new w #[.int .i64 0, .int .i64 0, .int .i64 0, .int .i64 0, .int .u64 0, .int .u64 0, .int .u64 0, .int .u64 0, .int .i64 0, .string ⟨#[]⟩, .int .i64 0, .int .i64 0, .int .u64 0] 35)
  have C := Lib.hid (scrReadAct s _ hs ((hE.below hb0).up hb0.size))
  unfold ReadActE at C
  have HB0 := Lib.hid hb0
  cases hr : readAct s with
  | none =>
    have HR := Lib.hid hr
    rw [hr] at C
    simp only [Option.isSome_none] at C
    clear hr hb0 hE
    go_enter Tryd.func14, Tryd.ntmps14
    go_wp2_with (go_at_call 37; refine C.out.mono ?_)
    rintro e w1 ⟨rfl, b1⟩
    have HB1 := Lib.hid (HB0.out.trans (b1.mono HB0.out.size))
    have HX1 := Lib.hid (HX0.out.kept b1)
    have hlt := HX1.out.lt
    have HN := Lib.hid (Blk.new w1 #[.int .i64 0, .int .i64 0, .int .i64 0, .int .i64 0, .int .u64 0, .int .u64 0, .int .u64 0, .int .u64 0, .int .i64 0, .string ⟨#[]⟩, .int .i64 0, .int .i64 0, .int .u64 0] 35)
    obtain ⟨hb2, hx2⟩ := row_in w w1 #[.int .i64 0, .int .i64 0, .int .i64 0, .int .i64 0, .int .u64 0, .int .u64 0, .int .u64 0, .int .u64 0, .int .i64 0, .string ⟨#[]⟩, .int .i64 0, .int .i64 0, .int .u64 0] #[.int .i64 0, .int .i64 0, .int .i64 0, .int .i64 0, .int .u64 0, .int .u64 0, .int .u64 0, .int .u64 0, .int .i64 0, .string ⟨#[]⟩, .int .i64 0, .int .i64 0, .int .u64 0] 35 HB1.out
    have HX2 : Hid (Blk ((w1.alloc (.cells #[.int .i64 0, .int .i64 0, .int .i64 0, .int .i64 0, .int .u64 0, .int .u64 0, .int .u64 0, .int .u64 0, .int .i64 0, .string ⟨#[]⟩, .int .i64 0, .int .i64 0, .int .u64 0] 35)).setRow w1.heap.size #[.int .i64 0, .int .i64 0, .int .i64 0, .int .i64 0, .int .u64 0, .int .u64 0, .int .u64 0, .int .u64 0, .int .i64 0, .string ⟨#[]⟩, .int .i64 0, .int .i64 0, .int .u64 0]) w.heap.size 35 #[.int .i64 0, .int .i64 0, .int .i64 0, .int .i64 0, .int .u64 0, .int .u64 0, .int .u64 0, .int .u64 0, .int .i64 0, .string ⟨#[]⟩, .int .i64 0, .int .i64 0, .int .u64 0]) := Lib.hid ((HX1.out.kept ((Below.refl _ _).alloc (Nat.le_refl _) _)).setRow_other (k := w1.heap.size) #[.int .i64 0, .int .i64 0, .int .i64 0, .int .i64 0, .int .u64 0, .int .u64 0, .int .u64 0, .int .u64 0, .int .i64 0, .string ⟨#[]⟩, .int .i64 0, .int .i64 0, .int .u64 0] (by omega))
    obtain ⟨hb3, hx3⟩ := set_in #[.int .i64 0, .int .i64 0, .int .i64 0, .int .i64 0, .int .u64 0, .int .u64 0, .int .u64 0, .int .u64 0, .int .i64 0, .string ⟨#[]⟩, .int .i64 0, .int .i64 0, .int .u64 0] hb2 HX2.out (Nat.le_refl _)
    have HB3 := Lib.hid hb3
    have HX3 := Lib.hid hx3
    clear b1 hb2 hx2 hb3 hx3 C HB0 HX0 HX1 HB1
    go_wp2_with (first
      | (refine wpList_store_row rfl 35 (.tmp 4) (.tmp 9) rfl w1.heap.size #[.int .i64 0, .int .i64 0, .int .i64 0, .int .i64 0, .int .u64 0, .int .u64 0, .int .u64 0, .int .u64 0, .int .i64 0, .string ⟨#[]⟩, .int .i64 0, .int .i64 0, .int .u64 0] rfl rfl _ _ HN.out act_size rfl (by simp [Value.oneCell']) ?_)
      | (refine wpList_store_row rfl 35 (.tmp 2) (.tmp 13) rfl w.heap.size #[.int .i64 0, .int .i64 0, .int .i64 0, .int .i64 0, .int .u64 0, .int .u64 0, .int .u64 0, .int .u64 0, .int .i64 0, .string ⟨#[]⟩, .int .i64 0, .int .i64 0, .int .u64 0] rfl rfl _ _ HX2.out act_size rfl (by simp [Value.oneCell']) ?_))
    have y0 := HX3.out.cell 0 rfl; have y1 := HX3.out.cell 1 rfl; have y2 := HX3.out.cell 2 rfl; have y3 := HX3.out.cell 3 rfl; have y4 := HX3.out.cell 4 rfl; have y5 := HX3.out.cell 5 rfl; have y6 := HX3.out.cell 6 rfl; have y7 := HX3.out.cell 7 rfl; have y8 := HX3.out.cell 8 rfl; have y9 := HX3.out.cell 9 rfl; have y10 := HX3.out.cell 10 rfl; have y11 := HX3.out.cell 11 rfl; have y12 := HX3.out.cell 12 rfl
    refine bodyPost_ret (v := .tuple #[.agg #[.int .i64 0, .int .i64 0, .int .i64 0, .int .i64 0, .int .u64 0, .int .u64 0, .int .u64 0, .int .u64 0, .int .i64 0, .string ⟨#[]⟩, .int .i64 0, .int .i64 0, .int .u64 0], .int .i64 4]) (by simp [results, Tryd.results14, go_sem, y0, y1, y2, y3, y4, y5, y6, y7, y8, y9, y10, y11, y12]) rfl ?_
    exact toActE_no HR.out HB3.out
  | some a =>
    have HR := Lib.hid hr
    rw [hr] at C
    simp only [Option.isSome_some] at C
    obtain ⟨kind, ka, kb, kn, kdraw, kmask, ⟨ses, seq, op, key, amount, span, lease⟩⟩ := a
    unfold Ap.cells Cm.cells at C
    simp only [List.cons_append, List.nil_append] at C
    clear hr hb0 hE
    go_enter Tryd.func14, Tryd.ntmps14
    go_wp2_with (go_at_call 37; refine C.out.mono ?_)
    rintro e w1 ⟨rfl, b1⟩
    have HB1 := Lib.hid (HB0.out.trans (b1.mono HB0.out.size))
    have HX1 := Lib.hid (HX0.out.kept b1)
    have hlt := HX1.out.lt
    have HN := Lib.hid (Blk.new w1 #[.int .i64 0, .int .i64 0, .int .i64 0, .int .i64 0, .int .u64 0, .int .u64 0, .int .u64 0, .int .u64 0, .int .i64 0, .string ⟨#[]⟩, .int .i64 0, .int .i64 0, .int .u64 0] 35)
    obtain ⟨hb2, hx2⟩ := row_in w w1 #[.int .i64 0, .int .i64 0, .int .i64 0, .int .i64 0, .int .u64 0, .int .u64 0, .int .u64 0, .int .u64 0, .int .i64 0, .string ⟨#[]⟩, .int .i64 0, .int .i64 0, .int .u64 0] #[.int .i64 kind, .int .i64 ka, .int .i64 kb, .int .i64 kn, .int .u64 kdraw, .int .u64 kmask, .int .u64 ses, .int .u64 seq, .int .i64 op, .string ⟨key.toArray⟩, .int .i64 amount, .int .i64 span, .int .u64 lease] 35 HB1.out
    have HXN := Lib.hid hx2
    have HX2 : Hid (Blk ((w1.alloc (.cells #[.int .i64 0, .int .i64 0, .int .i64 0, .int .i64 0, .int .u64 0, .int .u64 0, .int .u64 0, .int .u64 0, .int .i64 0, .string ⟨#[]⟩, .int .i64 0, .int .i64 0, .int .u64 0] 35)).setRow w1.heap.size #[.int .i64 kind, .int .i64 ka, .int .i64 kb, .int .i64 kn, .int .u64 kdraw, .int .u64 kmask, .int .u64 ses, .int .u64 seq, .int .i64 op, .string ⟨key.toArray⟩, .int .i64 amount, .int .i64 span, .int .u64 lease]) w.heap.size 35 #[.int .i64 0, .int .i64 0, .int .i64 0, .int .i64 0, .int .u64 0, .int .u64 0, .int .u64 0, .int .u64 0, .int .i64 0, .string ⟨#[]⟩, .int .i64 0, .int .i64 0, .int .u64 0]) := Lib.hid ((HX1.out.kept ((Below.refl _ _).alloc (Nat.le_refl _) _)).setRow_other (k := w1.heap.size) #[.int .i64 kind, .int .i64 ka, .int .i64 kb, .int .i64 kn, .int .u64 kdraw, .int .u64 kmask, .int .u64 ses, .int .u64 seq, .int .i64 op, .string ⟨key.toArray⟩, .int .i64 amount, .int .i64 span, .int .u64 lease] (by omega))
    obtain ⟨hb3, hx3⟩ := set_in #[.int .i64 kind, .int .i64 ka, .int .i64 kb, .int .i64 kn, .int .u64 kdraw, .int .u64 kmask, .int .u64 ses, .int .u64 seq, .int .i64 op, .string ⟨key.toArray⟩, .int .i64 amount, .int .i64 span, .int .u64 lease] hb2 HX2.out (Nat.le_refl _)
    have HB3 := Lib.hid hb3
    have HX3 := Lib.hid hx3
    clear b1 hb2 hx2 hb3 hx3 C HB0 HX0 HX1 HB1
    go_wp2_with (first
      | (refine wpList_store_row rfl 35 (.tmp 4) (.tmp 9) rfl w1.heap.size #[.int .i64 kind, .int .i64 ka, .int .i64 kb, .int .i64 kn, .int .u64 kdraw, .int .u64 kmask, .int .u64 ses, .int .u64 seq, .int .i64 op, .string ⟨key.toArray⟩, .int .i64 amount, .int .i64 span, .int .u64 lease] rfl rfl _ _ HN.out act_size rfl (by simp [Value.oneCell']) ?_; have q0 := HXN.out.cell 0 rfl; have q1 := HXN.out.cell 1 rfl; have q2 := HXN.out.cell 2 rfl; have q3 := HXN.out.cell 3 rfl; have q4 := HXN.out.cell 4 rfl; have q5 := HXN.out.cell 5 rfl; have q6 := HXN.out.cell 6 rfl; have q7 := HXN.out.cell 7 rfl; have q8 := HXN.out.cell 8 rfl; have q9 := HXN.out.cell 9 rfl; have q10 := HXN.out.cell 10 rfl; have q11 := HXN.out.cell 11 rfl; have q12 := HXN.out.cell 12 rfl)
      | (refine wpList_store_row rfl 35 (.tmp 2) (.tmp 14) rfl w.heap.size #[.int .i64 kind, .int .i64 ka, .int .i64 kb, .int .i64 kn, .int .u64 kdraw, .int .u64 kmask, .int .u64 ses, .int .u64 seq, .int .i64 op, .string ⟨key.toArray⟩, .int .i64 amount, .int .i64 span, .int .u64 lease] rfl rfl _ _ HX2.out act_size rfl (by simp [Value.oneCell']) ?_))
    have y0 := HX3.out.cell 0 rfl; have y1 := HX3.out.cell 1 rfl; have y2 := HX3.out.cell 2 rfl; have y3 := HX3.out.cell 3 rfl; have y4 := HX3.out.cell 4 rfl; have y5 := HX3.out.cell 5 rfl; have y6 := HX3.out.cell 6 rfl; have y7 := HX3.out.cell 7 rfl; have y8 := HX3.out.cell 8 rfl; have y9 := HX3.out.cell 9 rfl; have y10 := HX3.out.cell 10 rfl; have y11 := HX3.out.cell 11 rfl; have y12 := HX3.out.cell 12 rfl
    refine bodyPost_ret (v := .tuple #[.agg #[.int .i64 kind, .int .i64 ka, .int .i64 kb, .int .i64 kn, .int .u64 kdraw, .int .u64 kmask, .int .u64 ses, .int .u64 seq, .int .i64 op, .string ⟨key.toArray⟩, .int .i64 amount, .int .i64 span, .int .u64 lease], .int .i64 0]) (by simp [results, Tryd.results14, go_sem, y0, y1, y2, y3, y4, y5, y6, y7, y8, y9, y10, y11, y12]) rfl ?_
    exact toActE_yes HR.out rfl HB3.out
end Go.Proofs.YtcinohmhhglpjaaDoor
