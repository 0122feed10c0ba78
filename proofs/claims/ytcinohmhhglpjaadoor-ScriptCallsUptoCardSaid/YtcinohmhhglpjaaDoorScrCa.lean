/- Contract of package script's Call (printed by gen_scrcall.py). -/
import Derived.Test.YtcinohmhhglpjaaDoorScrE
import Derived.Test.YtcinohmhhglpjaaDoorScrC2
import Derived.Test.YtcinohmhhglpjaaDoorScrTA
namespace Go.Proofs.YtcinohmhhglpjaaDoor
open Go.RowKit

def Rp.cells (r : Rp) : List Value := [.int .u64 r.ses, .int .u64 r.seq, .int .i64 r.e, .int .u64 r.lease, .int .i64 r.amount, .int .i64 r.til]
def Cl.cells (c : Cl) : List Value := [.int .i64 c.edge, .bool c.look, .bool c.lazy] ++ c.cmd.cells ++ [.string ⟨c.key.toArray⟩, .int .i64 c.beg, .int .i64 c.fin] ++ c.rep.cells ++ [.int .i64 c.cap, .int .i64 c.lent]
theorem rep_size : (Tryd.prog.info? 46).map (·.size) = some 6 := by kernel_rfl
theorem rep_eq (c d : Rp) (w : World) (n : Nat) : (Op.equalIn (n + 2) 46 (.agg c.cells.toArray) (.agg d.cells.toArray)).run Tryd.prog w = .ok (decide (c = d)) w := by
  have u1 := Tryd.underlying25
  have a1 := Tryd.isAgg25
  have z1 := Tryd.sizeOf25
  have u2 := Tryd.underlying2
  have a2 := Tryd.isAgg2
  have z2 := Tryd.sizeOf2
  have u3 := Tryd.underlying31
  have a3 := Tryd.isAgg31
  have z3 := Tryd.sizeOf31
  have hS := Tryd.underlying46
  unfold Op.equalIn
  simp only [Sem.run_bind, run_underlying hS, Result.andThen_ok]
  unfold Rp.cells
  go_simp
  by_cases h : c = d
  · subst h; simp
  · rw [decide_eq_false h]
    have hn : ¬ (c.ses = d.ses ∧ c.seq = d.seq ∧ c.e = d.e ∧ c.lease = d.lease ∧ c.amount = d.amount ∧ c.til = d.til) := fun e => h (Rp.ext_iff'.2 e)
    by_cases h1 : c.ses = d.ses
    · by_cases h2 : c.seq = d.seq
      · by_cases h3 : c.e = d.e
        · by_cases h4 : c.lease = d.lease
          · by_cases h5 : c.amount = d.amount
            · by_cases h6 : c.til = d.til
              · exact absurd ⟨h1, h2, h3, h4, h5, h6⟩ hn
              · simp [h1, h2, h3, h4, h5, h6]
            · simp [h1, h2, h3, h4, h5]
          · simp [h1, h2, h3, h4]
        · simp [h1, h2, h3]
      · simp [h1, h2]
    · simp [h1]
/-- What Call answers. -/
def CallE (c : Cl) (w : World) (e : Ending) (w' : World) : Prop :=
  e = .returned (.tuple #[.string ⟨(if c.ok = true then c.line else []).toArray⟩, .int .i64 (if c.ok = true then 0 else 2)]) ∧ Below w.heap.size w w'
theorem callE_no {c : Cl} {w w' : World} (h : c.ok = false) (hb : Below w.heap.size w w') : CallE c w (.returned (.tuple #[.string ⟨#[]⟩, .int .i64 2])) w' := by
  unfold CallE; rw [h]; exact ⟨rfl, hb⟩
theorem callE_yes {c : Cl} {w w' : World} {l : List UInt8} (h : c.ok = true) (hl : l = c.line) (hb : Below w.heap.size w w') : CallE c w (.returned (.tuple #[.string ⟨l.toArray⟩, .int .i64 0])) w' := by
  subst hl; unfold CallE; rw [h]; exact ⟨rfl, hb⟩
theorem wrap_code {n : Int} (h0 : 0 ≤ n) (h1 : n ≤ 20) : IntKind.u64.wrap n = n := by
  unfold IntKind.wrap
  simp [IntKind.bits, IntKind.signed]
  omega
theorem cm_zero_cells : Cm.zero.cells = [.int .u64 0, .int .u64 0, .int .i64 0, .string ⟨#[]⟩, .int .i64 0, .int .i64 0, .int .u64 0] := rfl
theorem rp_zero_cells : Rp.zero.cells = [.int .u64 0, .int .u64 0, .int .i64 0, .int .u64 0, .int .i64 0, .int .i64 0] := rfl
set_option maxRecDepth 20000 in
set_option maxHeartbeats 4000000 in
theorem scrCallNoLook (c : Cl) (hc : c.wf) (hlk : c.look = true) (hno : c.ok = false) (w : World) (hE : Env w.heap.size w) : Calls Tryd.prog 16 #[.agg c.cells.toArray] w (CallE c w) := by
  have HNO := Lib.hid hno
  have HCE := Lib.hid (fun W => cmd_eq c.cmd Cm.zero W 9998)
  have HRE := Lib.hid (fun W => rep_eq c.rep Rp.zero W 9998)
  rw [cm_zero_cells] at HCE
  rw [rp_zero_cells] at HRE
  have hno' : ¬ c.key.length ≤ 64 ∨ (c.key.length ≤ 64 ∧ ¬ c.cmd = .zero) ∨ (c.key.length ≤ 64 ∧ c.cmd = .zero ∧ ¬ c.rep = .zero) := by
    by_cases h1 : c.key.length ≤ 64
    · by_cases h2 : c.cmd = .zero
      · by_cases h3 : c.rep = .zero
        · simp [Cl.ok, hlk, h1, h2, h3] at hno
        · exact .inr (.inr ⟨h1, h2, h3⟩)
      · exact .inr (.inl ⟨h1, h2⟩)
    · exact .inl h1
  have hkl := hc.keyl
  clear hno hc
  generalize hq1 : decide (c.cmd = .zero) = q1 at HCE
  generalize hq2 : decide (c.rep = .zero) = q2 at HRE
  obtain ⟨edge, look, lazy, ⟨ses, seq, op, ckey, amount, span, lease⟩, key, beg, fin, ⟨rses, rseq, re, rlease, ramount, rtil⟩, cap, lent⟩ := c
  simp only at hlk hkl
  subst hlk
  unfold Cl.cells Cm.cells Rp.cells at *
  simp only [List.cons_append, List.nil_append] at *
  have hce := HCE.out
  have hre := HRE.out
  have hb1 : Below w.heap.size w (w.alloc (.cells #[.int .i64 edge, .bool true, .bool lazy, .int .u64 ses, .int .u64 seq, .int .i64 op, .string ⟨ckey.toArray⟩, .int .i64 amount, .int .i64 span, .int .u64 lease, .string ⟨key.toArray⟩, .int .i64 beg, .int .i64 fin, .int .u64 rses, .int .u64 rseq, .int .i64 re, .int .u64 rlease, .int .i64 ramount, .int .i64 rtil, .int .i64 cap, .int .i64 lent] 48)) := (Below.refl _ _).alloc (Nat.le_refl _) _
  have hz1 : (w.alloc (.cells #[.int .i64 edge, .bool true, .bool lazy, .int .u64 ses, .int .u64 seq, .int .i64 op, .string ⟨ckey.toArray⟩, .int .i64 amount, .int .i64 span, .int .u64 lease, .string ⟨key.toArray⟩, .int .i64 beg, .int .i64 fin, .int .u64 rses, .int .u64 rseq, .int .i64 re, .int .u64 rlease, .int .i64 ramount, .int .i64 rtil, .int .i64 cap, .int .i64 lent] 48)).heap.size = w.heap.size + 1 := by simp
  have hk1 : Blk (w.alloc (.cells #[.int .i64 edge, .bool true, .bool lazy, .int .u64 ses, .int .u64 seq, .int .i64 op, .string ⟨ckey.toArray⟩, .int .i64 amount, .int .i64 span, .int .u64 lease, .string ⟨key.toArray⟩, .int .i64 beg, .int .i64 fin, .int .u64 rses, .int .u64 rseq, .int .i64 re, .int .u64 rlease, .int .i64 ramount, .int .i64 rtil, .int .i64 cap, .int .i64 lent] 48)) w.heap.size 48 #[.int .i64 edge, .bool true, .bool lazy, .int .u64 ses, .int .u64 seq, .int .i64 op, .string ⟨ckey.toArray⟩, .int .i64 amount, .int .i64 span, .int .u64 lease, .string ⟨key.toArray⟩, .int .i64 beg, .int .i64 fin, .int .u64 rses, .int .u64 rseq, .int .i64 re, .int .u64 rlease, .int .i64 ramount, .int .i64 rtil, .int .i64 cap, .int .i64 lent] := Blk.new w _ _
  have hb2 : Below (w.heap.size + 1) (w.alloc (.cells #[.int .i64 edge, .bool true, .bool lazy, .int .u64 ses, .int .u64 seq, .int .i64 op, .string ⟨ckey.toArray⟩, .int .i64 amount, .int .i64 span, .int .u64 lease, .string ⟨key.toArray⟩, .int .i64 beg, .int .i64 fin, .int .u64 rses, .int .u64 rseq, .int .i64 re, .int .u64 rlease, .int .i64 ramount, .int .i64 rtil, .int .i64 cap, .int .i64 lent] 48)) ((w.alloc (.cells #[.int .i64 edge, .bool true, .bool lazy, .int .u64 ses, .int .u64 seq, .int .i64 op, .string ⟨ckey.toArray⟩, .int .i64 amount, .int .i64 span, .int .u64 lease, .string ⟨key.toArray⟩, .int .i64 beg, .int .i64 fin, .int .u64 rses, .int .u64 rseq, .int .i64 re, .int .u64 rlease, .int .i64 ramount, .int .i64 rtil, .int .i64 cap, .int .i64 lent] 48)).alloc (.cells #[.pointer none, .slice none 0 0] Tw)) := (Below.refl _ _).alloc (by simp) _
  have hz2 : ((w.alloc (.cells #[.int .i64 edge, .bool true, .bool lazy, .int .u64 ses, .int .u64 seq, .int .i64 op, .string ⟨ckey.toArray⟩, .int .i64 amount, .int .i64 span, .int .u64 lease, .string ⟨key.toArray⟩, .int .i64 beg, .int .i64 fin, .int .u64 rses, .int .u64 rseq, .int .i64 re, .int .u64 rlease, .int .i64 ramount, .int .i64 rtil, .int .i64 cap, .int .i64 lent] 48)).alloc (.cells #[.pointer none, .slice none 0 0] Tw)).heap.size = w.heap.size + 1 + 1 := by simp
  have hk2 : Blk ((w.alloc (.cells #[.int .i64 edge, .bool true, .bool lazy, .int .u64 ses, .int .u64 seq, .int .i64 op, .string ⟨ckey.toArray⟩, .int .i64 amount, .int .i64 span, .int .u64 lease, .string ⟨key.toArray⟩, .int .i64 beg, .int .i64 fin, .int .u64 rses, .int .u64 rseq, .int .i64 re, .int .u64 rlease, .int .i64 ramount, .int .i64 rtil, .int .i64 cap, .int .i64 lent] 48)).alloc (.cells #[.pointer none, .slice none 0 0] Tw)) w.heap.size 48 #[.int .i64 edge, .bool true, .bool lazy, .int .u64 ses, .int .u64 seq, .int .i64 op, .string ⟨ckey.toArray⟩, .int .i64 amount, .int .i64 span, .int .u64 lease, .string ⟨key.toArray⟩, .int .i64 beg, .int .i64 fin, .int .u64 rses, .int .u64 rseq, .int .i64 re, .int .u64 rlease, .int .i64 ramount, .int .i64 rtil, .int .i64 cap, .int .i64 lent] := hk1.below hb2 (by omega)
  have hw2 : WB ((w.alloc (.cells #[.int .i64 edge, .bool true, .bool lazy, .int .u64 ses, .int .u64 seq, .int .i64 op, .string ⟨ckey.toArray⟩, .int .i64 amount, .int .i64 span, .int .u64 lease, .string ⟨key.toArray⟩, .int .i64 beg, .int .i64 fin, .int .u64 rses, .int .u64 rseq, .int .i64 re, .int .u64 rlease, .int .i64 ramount, .int .i64 rtil, .int .i64 cap, .int .i64 lent] 48)).alloc (.cells #[.pointer none, .slice none 0 0] Tw)) Tw (w.heap.size + 1) (w.heap.size + 1) [] := by
    have := WB.new (w.alloc (.cells #[.int .i64 edge, .bool true, .bool lazy, .int .u64 ses, .int .u64 seq, .int .i64 op, .string ⟨ckey.toArray⟩, .int .i64 amount, .int .i64 span, .int .u64 lease, .string ⟨key.toArray⟩, .int .i64 beg, .int .i64 fin, .int .u64 rses, .int .u64 rseq, .int .i64 re, .int .u64 rlease, .int .i64 ramount, .int .i64 rtil, .int .i64 cap, .int .i64 lent] 48)) Tw (B := w.heap.size + 1) (by simp)
    rwa [hz1] at this
  obtain ⟨hb3, hr3⟩ := laid_row ((w.alloc (.cells #[.int .i64 edge, .bool true, .bool lazy, .int .u64 ses, .int .u64 seq, .int .i64 op, .string ⟨ckey.toArray⟩, .int .i64 amount, .int .i64 span, .int .u64 lease, .string ⟨key.toArray⟩, .int .i64 beg, .int .i64 fin, .int .u64 rses, .int .u64 rseq, .int .i64 re, .int .u64 rlease, .int .i64 ramount, .int .i64 rtil, .int .i64 cap, .int .i64 lent] 48)).alloc (.cells #[.pointer none, .slice none 0 0] Tw)) #[.int .u64 0, .int .u64 0, .int .i64 0, .int .u64 0, .int .i64 0, .int .i64 0] #[.int .u64 rses, .int .u64 rseq, .int .i64 re, .int .u64 rlease, .int .i64 ramount, .int .i64 rtil] 46
  rw [hz2] at hb3 hr3
  have HN : Hid (Blk (((w.alloc (.cells #[.int .i64 edge, .bool true, .bool lazy, .int .u64 ses, .int .u64 seq, .int .i64 op, .string ⟨ckey.toArray⟩, .int .i64 amount, .int .i64 span, .int .u64 lease, .string ⟨key.toArray⟩, .int .i64 beg, .int .i64 fin, .int .u64 rses, .int .u64 rseq, .int .i64 re, .int .u64 rlease, .int .i64 ramount, .int .i64 rtil, .int .i64 cap, .int .i64 lent] 48)).alloc (.cells #[.pointer none, .slice none 0 0] Tw)).alloc (.cells #[.int .u64 0, .int .u64 0, .int .i64 0, .int .u64 0, .int .i64 0, .int .i64 0] 46)) (w.heap.size + 1 + 1) 46 #[.int .u64 0, .int .u64 0, .int .i64 0, .int .u64 0, .int .i64 0, .int .i64 0]) := Lib.hid (by
    have := Blk.new ((w.alloc (.cells #[.int .i64 edge, .bool true, .bool lazy, .int .u64 ses, .int .u64 seq, .int .i64 op, .string ⟨ckey.toArray⟩, .int .i64 amount, .int .i64 span, .int .u64 lease, .string ⟨key.toArray⟩, .int .i64 beg, .int .i64 fin, .int .u64 rses, .int .u64 rseq, .int .i64 re, .int .u64 rlease, .int .i64 ramount, .int .i64 rtil, .int .i64 cap, .int .i64 lent] 48)).alloc (.cells #[.pointer none, .slice none 0 0] Tw)) #[.int .u64 0, .int .u64 0, .int .i64 0, .int .u64 0, .int .i64 0, .int .i64 0] 46
    rwa [hz2] at this)
  have HK3 := Lib.hid (hk2.below hb3 (by omega))
  have HW3 := Lib.hid (hw2.below (by rw [hz2]; exact hb3))
  have HR3 := Lib.hid hr3
  have HB3 := Lib.hid ((hb1.trans (hb2.mono (by omega))).trans (hb3.mono (by omega)))
  have HE3 : Hid (Env (w.heap.size + 1) ((((w.alloc (.cells #[.int .i64 edge, .bool true, .bool lazy, .int .u64 ses, .int .u64 seq, .int .i64 op, .string ⟨ckey.toArray⟩, .int .i64 amount, .int .i64 span, .int .u64 lease, .string ⟨key.toArray⟩, .int .i64 beg, .int .i64 fin, .int .u64 rses, .int .u64 rseq, .int .i64 re, .int .u64 rlease, .int .i64 ramount, .int .i64 rtil, .int .i64 cap, .int .i64 lent] 48)).alloc (.cells #[.pointer none, .slice none 0 0] Tw)).alloc (.cells #[.int .u64 0, .int .u64 0, .int .i64 0, .int .u64 0, .int .i64 0, .int .i64 0] 46)).setRow (w.heap.size + 1 + 1) #[.int .u64 rses, .int .u64 rseq, .int .i64 re, .int .u64 rlease, .int .i64 ramount, .int .i64 rtil])) := Lib.hid ((hE.below HB3.out).up (by omega))
  have hsz := HR3.out.lt
  clear hb1 hz1 hk1 hb2 hz2 hk2 hw2 hb3 hr3 hE
  rcases hno' with h1 | ⟨h1, h2⟩ | ⟨h1, h2, h3⟩
  · have hk : (64 : Int) < (key.length : Int) := by omega
    clear hq1 hq2 h1
    go_enter Tryd.func16, Tryd.ntmps16
    go_wp2_with (refine wpList_store_row rfl 46 (.tmp 5) (.tmp 9) rfl (w.heap.size + 1 + 1) #[.int .u64 rses, .int .u64 rseq, .int .i64 re, .int .u64 rlease, .int .i64 ramount, .int .i64 rtil] rfl rfl _ _ HN.out rep_size rfl (by simp [Value.oneCell']) ?_; clear HN; generalize ((((w.alloc (.cells #[.int .i64 edge, .bool true, .bool lazy, .int .u64 ses, .int .u64 seq, .int .i64 op, .string ⟨ckey.toArray⟩, .int .i64 amount, .int .i64 span, .int .u64 lease, .string ⟨key.toArray⟩, .int .i64 beg, .int .i64 fin, .int .u64 rses, .int .u64 rseq, .int .i64 re, .int .u64 rlease, .int .i64 ramount, .int .i64 rtil, .int .i64 cap, .int .i64 lent] 48)).alloc (.cells #[.pointer none, .slice none 0 0] Tw)).alloc (.cells #[.int .u64 0, .int .u64 0, .int .i64 0, .int .u64 0, .int .i64 0, .int .i64 0] 46)).setRow (w.heap.size + 1 + 1) #[.int .u64 rses, .int .u64 rseq, .int .i64 re, .int .u64 rlease, .int .i64 ramount, .int .i64 rtil]) = w3 at *; have c0 := HK3.out.cell 0 rfl; have c1 := HK3.out.cell 1 rfl; have c2 := HK3.out.cell 2 rfl; have c3 := HK3.out.cell 3 rfl; have c4 := HK3.out.cell 4 rfl; have c5 := HK3.out.cell 5 rfl; have c6 := HK3.out.cell 6 rfl; have c7 := HK3.out.cell 7 rfl; have c8 := HK3.out.cell 8 rfl; have c9 := HK3.out.cell 9 rfl; have c10 := HK3.out.cell 10 rfl; have c11 := HK3.out.cell 11 rfl; have c12 := HK3.out.cell 12 rfl; have c13 := HK3.out.cell 13 rfl; have c14 := HK3.out.cell 14 rfl; have c15 := HK3.out.cell 15 rfl; have c16 := HK3.out.cell 16 rfl; have c17 := HK3.out.cell 17 rfl; have c18 := HK3.out.cell 18 rfl; have c19 := HK3.out.cell 19 rfl; have c20 := HK3.out.cell 20 rfl; have r0 := HR3.out.cell 0 rfl; have r1 := HR3.out.cell 1 rfl; have r2 := HR3.out.cell 2 rfl; have r3 := HR3.out.cell 3 rfl; have r4 := HR3.out.cell 4 rfl; have r5 := HR3.out.cell 5 rfl)
    go_ret2
    exact callE_no HNO.out HB3.out
  · have hk : ¬ (64 : Int) < (key.length : Int) := by omega
    obtain rfl : q1 = false := by rw [← hq1]; exact decide_eq_false h2
    clear hq1 hq2 h1 h2
    go_enter Tryd.func16, Tryd.ntmps16
    go_wp2_with (refine wpList_store_row rfl 46 (.tmp 5) (.tmp 9) rfl (w.heap.size + 1 + 1) #[.int .u64 rses, .int .u64 rseq, .int .i64 re, .int .u64 rlease, .int .i64 ramount, .int .i64 rtil] rfl rfl _ _ HN.out rep_size rfl (by simp [Value.oneCell']) ?_; clear HN; generalize ((((w.alloc (.cells #[.int .i64 edge, .bool true, .bool lazy, .int .u64 ses, .int .u64 seq, .int .i64 op, .string ⟨ckey.toArray⟩, .int .i64 amount, .int .i64 span, .int .u64 lease, .string ⟨key.toArray⟩, .int .i64 beg, .int .i64 fin, .int .u64 rses, .int .u64 rseq, .int .i64 re, .int .u64 rlease, .int .i64 ramount, .int .i64 rtil, .int .i64 cap, .int .i64 lent] 48)).alloc (.cells #[.pointer none, .slice none 0 0] Tw)).alloc (.cells #[.int .u64 0, .int .u64 0, .int .i64 0, .int .u64 0, .int .i64 0, .int .i64 0] 46)).setRow (w.heap.size + 1 + 1) #[.int .u64 rses, .int .u64 rseq, .int .i64 re, .int .u64 rlease, .int .i64 ramount, .int .i64 rtil]) = w3 at *; have c0 := HK3.out.cell 0 rfl; have c1 := HK3.out.cell 1 rfl; have c2 := HK3.out.cell 2 rfl; have c3 := HK3.out.cell 3 rfl; have c4 := HK3.out.cell 4 rfl; have c5 := HK3.out.cell 5 rfl; have c6 := HK3.out.cell 6 rfl; have c7 := HK3.out.cell 7 rfl; have c8 := HK3.out.cell 8 rfl; have c9 := HK3.out.cell 9 rfl; have c10 := HK3.out.cell 10 rfl; have c11 := HK3.out.cell 11 rfl; have c12 := HK3.out.cell 12 rfl; have c13 := HK3.out.cell 13 rfl; have c14 := HK3.out.cell 14 rfl; have c15 := HK3.out.cell 15 rfl; have c16 := HK3.out.cell 16 rfl; have c17 := HK3.out.cell 17 rfl; have c18 := HK3.out.cell 18 rfl; have c19 := HK3.out.cell 19 rfl; have c20 := HK3.out.cell 20 rfl; have r0 := HR3.out.cell 0 rfl; have r1 := HR3.out.cell 1 rfl; have r2 := HR3.out.cell 2 rfl; have r3 := HR3.out.cell 3 rfl; have r4 := HR3.out.cell 4 rfl; have r5 := HR3.out.cell 5 rfl)
    go_ret2
    exact callE_no HNO.out HB3.out
  · have hk : ¬ (64 : Int) < (key.length : Int) := by omega
    obtain rfl : q1 = true := by rw [← hq1]; exact decide_eq_true h2
    obtain rfl : q2 = false := by rw [← hq2]; exact decide_eq_false h3
    clear hq1 hq2 h1 h2 h3
    go_enter Tryd.func16, Tryd.ntmps16
    go_wp2_with (refine wpList_store_row rfl 46 (.tmp 5) (.tmp 9) rfl (w.heap.size + 1 + 1) #[.int .u64 rses, .int .u64 rseq, .int .i64 re, .int .u64 rlease, .int .i64 ramount, .int .i64 rtil] rfl rfl _ _ HN.out rep_size rfl (by simp [Value.oneCell']) ?_; clear HN; generalize ((((w.alloc (.cells #[.int .i64 edge, .bool true, .bool lazy, .int .u64 ses, .int .u64 seq, .int .i64 op, .string ⟨ckey.toArray⟩, .int .i64 amount, .int .i64 span, .int .u64 lease, .string ⟨key.toArray⟩, .int .i64 beg, .int .i64 fin, .int .u64 rses, .int .u64 rseq, .int .i64 re, .int .u64 rlease, .int .i64 ramount, .int .i64 rtil, .int .i64 cap, .int .i64 lent] 48)).alloc (.cells #[.pointer none, .slice none 0 0] Tw)).alloc (.cells #[.int .u64 0, .int .u64 0, .int .i64 0, .int .u64 0, .int .i64 0, .int .i64 0] 46)).setRow (w.heap.size + 1 + 1) #[.int .u64 rses, .int .u64 rseq, .int .i64 re, .int .u64 rlease, .int .i64 ramount, .int .i64 rtil]) = w3 at *; have c0 := HK3.out.cell 0 rfl; have c1 := HK3.out.cell 1 rfl; have c2 := HK3.out.cell 2 rfl; have c3 := HK3.out.cell 3 rfl; have c4 := HK3.out.cell 4 rfl; have c5 := HK3.out.cell 5 rfl; have c6 := HK3.out.cell 6 rfl; have c7 := HK3.out.cell 7 rfl; have c8 := HK3.out.cell 8 rfl; have c9 := HK3.out.cell 9 rfl; have c10 := HK3.out.cell 10 rfl; have c11 := HK3.out.cell 11 rfl; have c12 := HK3.out.cell 12 rfl; have c13 := HK3.out.cell 13 rfl; have c14 := HK3.out.cell 14 rfl; have c15 := HK3.out.cell 15 rfl; have c16 := HK3.out.cell 16 rfl; have c17 := HK3.out.cell 17 rfl; have c18 := HK3.out.cell 18 rfl; have c19 := HK3.out.cell 19 rfl; have c20 := HK3.out.cell 20 rfl; have r0 := HR3.out.cell 0 rfl; have r1 := HR3.out.cell 1 rfl; have r2 := HR3.out.cell 2 rfl; have r3 := HR3.out.cell 3 rfl; have r4 := HR3.out.cell 4 rfl; have r5 := HR3.out.cell 5 rfl)
    go_ret2
    exact callE_no HNO.out HB3.out
set_option maxRecDepth 20000 in
set_option maxHeartbeats 4000000 in
theorem scrCallNoCall (c : Cl) (hc : c.wf) (hlk : c.look = false) (hno : c.ok = false) (w : World) (hE : Env w.heap.size w) : Calls Tryd.prog 16 #[.agg c.cells.toArray] w (CallE c w) := by
  have HNO := Lib.hid hno
  have C := Lib.hid (scrCommanded c.cmd hc.cmd)
  have hno' : c.cmd.ok = true → ¬ c.rep.e < 0 → ¬ 20 < c.rep.e → c.lazy = false → c.key = [] → c.cap = 0 → c.lent = 0 → False := by
    intro h1 h2 h3 h4 h5 h6 h7
    have a1 : (0 : Int) ≤ c.rep.e := by omega
    have a2 : c.rep.e ≤ 20 := by omega
    simp [Cl.ok, hlk, h1, h4, h5, h6, h7, a1, a2] at hno
  clear hno hc
  generalize hq : c.cmd.ok = q at C
  obtain ⟨edge, look, lazy, ⟨ses, seq, op, ckey, amount, span, lease⟩, key, beg, fin, ⟨rses, rseq, re, rlease, ramount, rtil⟩, cap, lent⟩ := c
  simp only at hlk hno' hq
  subst hlk
  rw [hq] at hno'
  clear hq
  unfold Cl.cells Cm.cells Rp.cells at *
  simp only [List.cons_append, List.nil_append] at *
  have hb1 : Below w.heap.size w (w.alloc (.cells #[.int .i64 edge, .bool false, .bool lazy, .int .u64 ses, .int .u64 seq, .int .i64 op, .string ⟨ckey.toArray⟩, .int .i64 amount, .int .i64 span, .int .u64 lease, .string ⟨key.toArray⟩, .int .i64 beg, .int .i64 fin, .int .u64 rses, .int .u64 rseq, .int .i64 re, .int .u64 rlease, .int .i64 ramount, .int .i64 rtil, .int .i64 cap, .int .i64 lent] 48)) := (Below.refl _ _).alloc (Nat.le_refl _) _
  have hz1 : (w.alloc (.cells #[.int .i64 edge, .bool false, .bool lazy, .int .u64 ses, .int .u64 seq, .int .i64 op, .string ⟨ckey.toArray⟩, .int .i64 amount, .int .i64 span, .int .u64 lease, .string ⟨key.toArray⟩, .int .i64 beg, .int .i64 fin, .int .u64 rses, .int .u64 rseq, .int .i64 re, .int .u64 rlease, .int .i64 ramount, .int .i64 rtil, .int .i64 cap, .int .i64 lent] 48)).heap.size = w.heap.size + 1 := by simp
  have hk1 : Blk (w.alloc (.cells #[.int .i64 edge, .bool false, .bool lazy, .int .u64 ses, .int .u64 seq, .int .i64 op, .string ⟨ckey.toArray⟩, .int .i64 amount, .int .i64 span, .int .u64 lease, .string ⟨key.toArray⟩, .int .i64 beg, .int .i64 fin, .int .u64 rses, .int .u64 rseq, .int .i64 re, .int .u64 rlease, .int .i64 ramount, .int .i64 rtil, .int .i64 cap, .int .i64 lent] 48)) w.heap.size 48 #[.int .i64 edge, .bool false, .bool lazy, .int .u64 ses, .int .u64 seq, .int .i64 op, .string ⟨ckey.toArray⟩, .int .i64 amount, .int .i64 span, .int .u64 lease, .string ⟨key.toArray⟩, .int .i64 beg, .int .i64 fin, .int .u64 rses, .int .u64 rseq, .int .i64 re, .int .u64 rlease, .int .i64 ramount, .int .i64 rtil, .int .i64 cap, .int .i64 lent] := Blk.new w _ _
  have hb2 : Below (w.heap.size + 1) (w.alloc (.cells #[.int .i64 edge, .bool false, .bool lazy, .int .u64 ses, .int .u64 seq, .int .i64 op, .string ⟨ckey.toArray⟩, .int .i64 amount, .int .i64 span, .int .u64 lease, .string ⟨key.toArray⟩, .int .i64 beg, .int .i64 fin, .int .u64 rses, .int .u64 rseq, .int .i64 re, .int .u64 rlease, .int .i64 ramount, .int .i64 rtil, .int .i64 cap, .int .i64 lent] 48)) ((w.alloc (.cells #[.int .i64 edge, .bool false, .bool lazy, .int .u64 ses, .int .u64 seq, .int .i64 op, .string ⟨ckey.toArray⟩, .int .i64 amount, .int .i64 span, .int .u64 lease, .string ⟨key.toArray⟩, .int .i64 beg, .int .i64 fin, .int .u64 rses, .int .u64 rseq, .int .i64 re, .int .u64 rlease, .int .i64 ramount, .int .i64 rtil, .int .i64 cap, .int .i64 lent] 48)).alloc (.cells #[.pointer none, .slice none 0 0] Tw)) := (Below.refl _ _).alloc (by simp) _
  have hz2 : ((w.alloc (.cells #[.int .i64 edge, .bool false, .bool lazy, .int .u64 ses, .int .u64 seq, .int .i64 op, .string ⟨ckey.toArray⟩, .int .i64 amount, .int .i64 span, .int .u64 lease, .string ⟨key.toArray⟩, .int .i64 beg, .int .i64 fin, .int .u64 rses, .int .u64 rseq, .int .i64 re, .int .u64 rlease, .int .i64 ramount, .int .i64 rtil, .int .i64 cap, .int .i64 lent] 48)).alloc (.cells #[.pointer none, .slice none 0 0] Tw)).heap.size = w.heap.size + 1 + 1 := by simp
  have hk2 : Blk ((w.alloc (.cells #[.int .i64 edge, .bool false, .bool lazy, .int .u64 ses, .int .u64 seq, .int .i64 op, .string ⟨ckey.toArray⟩, .int .i64 amount, .int .i64 span, .int .u64 lease, .string ⟨key.toArray⟩, .int .i64 beg, .int .i64 fin, .int .u64 rses, .int .u64 rseq, .int .i64 re, .int .u64 rlease, .int .i64 ramount, .int .i64 rtil, .int .i64 cap, .int .i64 lent] 48)).alloc (.cells #[.pointer none, .slice none 0 0] Tw)) w.heap.size 48 #[.int .i64 edge, .bool false, .bool lazy, .int .u64 ses, .int .u64 seq, .int .i64 op, .string ⟨ckey.toArray⟩, .int .i64 amount, .int .i64 span, .int .u64 lease, .string ⟨key.toArray⟩, .int .i64 beg, .int .i64 fin, .int .u64 rses, .int .u64 rseq, .int .i64 re, .int .u64 rlease, .int .i64 ramount, .int .i64 rtil, .int .i64 cap, .int .i64 lent] := hk1.below hb2 (by omega)
  have hw2 : WB ((w.alloc (.cells #[.int .i64 edge, .bool false, .bool lazy, .int .u64 ses, .int .u64 seq, .int .i64 op, .string ⟨ckey.toArray⟩, .int .i64 amount, .int .i64 span, .int .u64 lease, .string ⟨key.toArray⟩, .int .i64 beg, .int .i64 fin, .int .u64 rses, .int .u64 rseq, .int .i64 re, .int .u64 rlease, .int .i64 ramount, .int .i64 rtil, .int .i64 cap, .int .i64 lent] 48)).alloc (.cells #[.pointer none, .slice none 0 0] Tw)) Tw (w.heap.size + 1) (w.heap.size + 1) [] := by
    have := WB.new (w.alloc (.cells #[.int .i64 edge, .bool false, .bool lazy, .int .u64 ses, .int .u64 seq, .int .i64 op, .string ⟨ckey.toArray⟩, .int .i64 amount, .int .i64 span, .int .u64 lease, .string ⟨key.toArray⟩, .int .i64 beg, .int .i64 fin, .int .u64 rses, .int .u64 rseq, .int .i64 re, .int .u64 rlease, .int .i64 ramount, .int .i64 rtil, .int .i64 cap, .int .i64 lent] 48)) Tw (B := w.heap.size + 1) (by simp)
    rwa [hz1] at this
  obtain ⟨hb3, hr3⟩ := laid_row ((w.alloc (.cells #[.int .i64 edge, .bool false, .bool lazy, .int .u64 ses, .int .u64 seq, .int .i64 op, .string ⟨ckey.toArray⟩, .int .i64 amount, .int .i64 span, .int .u64 lease, .string ⟨key.toArray⟩, .int .i64 beg, .int .i64 fin, .int .u64 rses, .int .u64 rseq, .int .i64 re, .int .u64 rlease, .int .i64 ramount, .int .i64 rtil, .int .i64 cap, .int .i64 lent] 48)).alloc (.cells #[.pointer none, .slice none 0 0] Tw)) #[.int .u64 0, .int .u64 0, .int .i64 0, .int .u64 0, .int .i64 0, .int .i64 0] #[.int .u64 rses, .int .u64 rseq, .int .i64 re, .int .u64 rlease, .int .i64 ramount, .int .i64 rtil] 46
  rw [hz2] at hb3 hr3
  have HN : Hid (Blk (((w.alloc (.cells #[.int .i64 edge, .bool false, .bool lazy, .int .u64 ses, .int .u64 seq, .int .i64 op, .string ⟨ckey.toArray⟩, .int .i64 amount, .int .i64 span, .int .u64 lease, .string ⟨key.toArray⟩, .int .i64 beg, .int .i64 fin, .int .u64 rses, .int .u64 rseq, .int .i64 re, .int .u64 rlease, .int .i64 ramount, .int .i64 rtil, .int .i64 cap, .int .i64 lent] 48)).alloc (.cells #[.pointer none, .slice none 0 0] Tw)).alloc (.cells #[.int .u64 0, .int .u64 0, .int .i64 0, .int .u64 0, .int .i64 0, .int .i64 0] 46)) (w.heap.size + 1 + 1) 46 #[.int .u64 0, .int .u64 0, .int .i64 0, .int .u64 0, .int .i64 0, .int .i64 0]) := Lib.hid (by
    have := Blk.new ((w.alloc (.cells #[.int .i64 edge, .bool false, .bool lazy, .int .u64 ses, .int .u64 seq, .int .i64 op, .string ⟨ckey.toArray⟩, .int .i64 amount, .int .i64 span, .int .u64 lease, .string ⟨key.toArray⟩, .int .i64 beg, .int .i64 fin, .int .u64 rses, .int .u64 rseq, .int .i64 re, .int .u64 rlease, .int .i64 ramount, .int .i64 rtil, .int .i64 cap, .int .i64 lent] 48)).alloc (.cells #[.pointer none, .slice none 0 0] Tw)) #[.int .u64 0, .int .u64 0, .int .i64 0, .int .u64 0, .int .i64 0, .int .i64 0] 46
    rwa [hz2] at this)
  have HK3 := Lib.hid (hk2.below hb3 (by omega))
  have HW3 := Lib.hid (hw2.below (by rw [hz2]; exact hb3))
  have HR3 := Lib.hid hr3
  have HB3 := Lib.hid ((hb1.trans (hb2.mono (by omega))).trans (hb3.mono (by omega)))
  have HE3 : Hid (Env (w.heap.size + 1) ((((w.alloc (.cells #[.int .i64 edge, .bool false, .bool lazy, .int .u64 ses, .int .u64 seq, .int .i64 op, .string ⟨ckey.toArray⟩, .int .i64 amount, .int .i64 span, .int .u64 lease, .string ⟨key.toArray⟩, .int .i64 beg, .int .i64 fin, .int .u64 rses, .int .u64 rseq, .int .i64 re, .int .u64 rlease, .int .i64 ramount, .int .i64 rtil, .int .i64 cap, .int .i64 lent] 48)).alloc (.cells #[.pointer none, .slice none 0 0] Tw)).alloc (.cells #[.int .u64 0, .int .u64 0, .int .i64 0, .int .u64 0, .int .i64 0, .int .i64 0] 46)).setRow (w.heap.size + 1 + 1) #[.int .u64 rses, .int .u64 rseq, .int .i64 re, .int .u64 rlease, .int .i64 ramount, .int .i64 rtil])) := Lib.hid ((hE.below HB3.out).up (by omega))
  have hsz := HR3.out.lt
  clear hb1 hz1 hk1 hb2 hz2 hk2 hw2 hb3 hr3 hE
  have he : (re < 0 ∨ ¬ re < 0) ∧ (20 < re ∨ ¬ 20 < re) := ⟨by omega, by omega⟩
  go_enter Tryd.func16, Tryd.ntmps16
  go_wp2_with ((refine wpList_store_row rfl 46 (.tmp 5) (.tmp 9) rfl (w.heap.size + 1 + 1) #[.int .u64 rses, .int .u64 rseq, .int .i64 re, .int .u64 rlease, .int .i64 ramount, .int .i64 rtil] rfl rfl _ _ HN.out rep_size rfl (by simp [Value.oneCell']) ?_; clear HN; generalize ((((w.alloc (.cells #[.int .i64 edge, .bool false, .bool lazy, .int .u64 ses, .int .u64 seq, .int .i64 op, .string ⟨ckey.toArray⟩, .int .i64 amount, .int .i64 span, .int .u64 lease, .string ⟨key.toArray⟩, .int .i64 beg, .int .i64 fin, .int .u64 rses, .int .u64 rseq, .int .i64 re, .int .u64 rlease, .int .i64 ramount, .int .i64 rtil, .int .i64 cap, .int .i64 lent] 48)).alloc (.cells #[.pointer none, .slice none 0 0] Tw)).alloc (.cells #[.int .u64 0, .int .u64 0, .int .i64 0, .int .u64 0, .int .i64 0, .int .i64 0] 46)).setRow (w.heap.size + 1 + 1) #[.int .u64 rses, .int .u64 rseq, .int .i64 re, .int .u64 rlease, .int .i64 ramount, .int .i64 rtil]) = w3 at *; have c0 := HK3.out.cell 0 rfl; have c1 := HK3.out.cell 1 rfl; have c2 := HK3.out.cell 2 rfl; have c3 := HK3.out.cell 3 rfl; have c4 := HK3.out.cell 4 rfl; have c5 := HK3.out.cell 5 rfl; have c6 := HK3.out.cell 6 rfl; have c7 := HK3.out.cell 7 rfl; have c8 := HK3.out.cell 8 rfl; have c9 := HK3.out.cell 9 rfl; have c10 := HK3.out.cell 10 rfl; have c11 := HK3.out.cell 11 rfl; have c12 := HK3.out.cell 12 rfl; have c13 := HK3.out.cell 13 rfl; have c14 := HK3.out.cell 14 rfl; have c15 := HK3.out.cell 15 rfl; have c16 := HK3.out.cell 16 rfl; have c17 := HK3.out.cell 17 rfl; have c18 := HK3.out.cell 18 rfl; have c19 := HK3.out.cell 19 rfl; have c20 := HK3.out.cell 20 rfl; have r0 := HR3.out.cell 0 rfl; have r1 := HR3.out.cell 1 rfl; have r2 := HR3.out.cell 2 rfl; have r3 := HR3.out.cell 3 rfl; have r4 := HR3.out.cell 4 rfl; have r5 := HR3.out.cell 5 rfl); repeat (first | go_values | go_skip | go_guarded | go_step))
  go_wp2_with (go_at_call 27; refine (C.out _).mono ?_)
  rintro e w4 ⟨rfl, hb4⟩
  have HB4 := Lib.hid (HB3.out.trans (hb4.mono (by omega)))
  have HK4 := Lib.hid (HK3.out.kept hb4)
  have HR4 := Lib.hid (HR3.out.kept hb4)
  clear hb4 HB3 HK3 HR3 HW3 HE3 c0 c1 c2 c3 c4 c5 c6 c7 c8 c9 c10 c11 c12 c13 c14 c15 c16 c17 c18 c19 c20 r0 r1 r2 r3 r4 r5
  have c0 := HK4.out.cell 0 rfl; have c1 := HK4.out.cell 1 rfl; have c2 := HK4.out.cell 2 rfl; have c3 := HK4.out.cell 3 rfl; have c4 := HK4.out.cell 4 rfl; have c5 := HK4.out.cell 5 rfl; have c6 := HK4.out.cell 6 rfl; have c7 := HK4.out.cell 7 rfl; have c8 := HK4.out.cell 8 rfl; have c9 := HK4.out.cell 9 rfl; have c10 := HK4.out.cell 10 rfl; have c11 := HK4.out.cell 11 rfl; have c12 := HK4.out.cell 12 rfl; have c13 := HK4.out.cell 13 rfl; have c14 := HK4.out.cell 14 rfl; have c15 := HK4.out.cell 15 rfl; have c16 := HK4.out.cell 16 rfl; have c17 := HK4.out.cell 17 rfl; have c18 := HK4.out.cell 18 rfl; have c19 := HK4.out.cell 19 rfl; have c20 := HK4.out.cell 20 rfl
  have r0 := HR4.out.cell 0 rfl; have r1 := HR4.out.cell 1 rfl; have r2 := HR4.out.cell 2 rfl; have r3 := HR4.out.cell 3 rfl; have r4 := HR4.out.cell 4 rfl; have r5 := HR4.out.cell 5 rfl
  cases q with
  | false =>
    clear hno' he
    go_wp2_with fail
    go_ret2
    exact callE_no HNO.out HB4.out
  | true =>
    obtain ⟨e0, e1⟩ := he
    rcases e0 with e0 | e0
    · clear hno' e1
      go_wp2_with fail
      go_ret2
      exact callE_no HNO.out HB4.out
    · rcases e1 with e1 | e1
      · clear hno'
        go_wp2_with fail
        go_ret2
        exact callE_no HNO.out HB4.out
      · cases lazy with
        | true =>
          clear hno'
          go_wp2_with fail
          go_ret2
          exact callE_no HNO.out HB4.out
        | false =>
          by_cases hk : key = []
          · by_cases hcp : cap = 0
            · have hln : (lent != 0) = true := by
                rw [bne_iff_ne]
                intro hl
                exact hno' rfl e0 e1 rfl hk hcp hl
              clear hno'
              subst hk hcp
              go_wp2_with fail
              go_ret2
              exact callE_no HNO.out HB4.out
            · have hcn : (cap != 0) = true := by rw [bne_iff_ne]; exact hcp
              clear hno' hcp
              subst hk
              go_wp2_with fail
              go_ret2
              exact callE_no HNO.out HB4.out
          · have hkn : (key == ([] : List UInt8)) = false := str_ne_of hk
            have hke : key.isEmpty = false := by cases key with | nil => exact absurd rfl hk | cons a b => rfl
            clear hno' hk
            go_wp2_with fail
            go_ret2
            exact callE_no HNO.out HB4.out
set_option maxRecDepth 20000 in
set_option maxHeartbeats 4000000 in
theorem scrCallLazy (c : Cl) (hc : c.wf) (hlk : c.look = true) (hlz : c.lazy = true) (hok : c.ok = true) (w : World) (hE : Env w.heap.size w) : Calls Tryd.prog 16 #[.agg c.cells.toArray] w (CallE c w) := by
  have HOK := Lib.hid hok
  have HNE := Lib.hid (Cl.line_ne c)
  have hok' := hok
  simp only [Cl.ok, hlk, if_true, Bool.and_eq_true, decide_eq_true_eq] at hok'
  obtain ⟨⟨hkl, hcz⟩, hrz⟩ := hok'
  have HCE := Lib.hid (fun W => cmd_eq c.cmd Cm.zero W 9998)
  have HRE := Lib.hid (fun W => rep_eq c.rep Rp.zero W 9998)
  rw [cm_zero_cells, decide_eq_true hcz] at HCE
  rw [rp_zero_cells, decide_eq_true hrz] at HRE
  have HL : Hid (addws (addw (addws wLazy ([c.edge, c.beg, c.fin].map Lib.itoa)) (120 :: hexs c.key)) ([c.cap, c.lent].map Lib.itoa) = c.line) := Lib.hid (by
    rw [show addw (addws wLazy ([c.edge, c.beg, c.fin].map Lib.itoa)) (120 :: hexs c.key) = addws (addws wLazy ([c.edge, c.beg, c.fin].map Lib.itoa)) [120 :: hexs c.key] from rfl, ← addws_append, ← addws_append, addws_tail (by decide)]
    simp [Cl.line, Cl.head, Cl.rest, hlk, hlz])
  obtain ⟨⟨g1, g2⟩, _, _, ⟨g3, g4⟩, ⟨g5, g6⟩, _, ⟨g7, g8⟩, g9, g10⟩ := hc
  have HYES := Lib.hid (fun l (hl : l = c.line) w' hb => callE_yes (w := w) (w' := w') (l := l) HOK.out hl hb)
  obtain ⟨ln, hln⟩ : ∃ ln, ln = c.line := ⟨_, rfl⟩
  have HLN := Lib.hid hln
  rw [← hln] at HNE HL
  clear hok hln hcz hrz
  obtain ⟨edge, look, lazy, ⟨ses, seq, op, ckey, amount, span, lease⟩, key, beg, fin, ⟨rses, rseq, re, rlease, ramount, rtil⟩, cap, lent⟩ := c
  simp only at *
  subst hlk hlz
  have hx1 : (addws wLazy ([edge, beg, fin].map Lib.itoa)).length ≤ 200 := by
    have := addws_len (k := 21) ([edge, beg, fin].map Lib.itoa) wLazy (by intro s hs; simp at hs; rcases hs with rfl | rfl | rfl <;> (have := itoa_len g1 g2; have := itoa_len g3 g4; have := itoa_len g5 g6; omega))
    simp only [List.map_cons, List.map_nil, List.length_cons, List.length_nil] at this ⊢
    have h4 : (wLazy : List UInt8).length = 4 := rfl
    omega
  generalize e1 : addws wLazy ([edge, beg, fin].map Lib.itoa) = l1 at *
  have hx2 : (addw l1 (120 :: hexs key)).length ≤ 500 := by
    have := addw_len l1 (120 :: hexs key)
    simp only [List.length_cons, hexs_len] at this
    omega
  generalize e2 : addw l1 (120 :: hexs key) = l2 at *
  have E1 := Lib.hid e1
  have E2 := Lib.hid e2
  clear e1 e2
  unfold Cl.cells Cm.cells Rp.cells at *
  simp only [List.cons_append, List.nil_append] at *
  have hce := HCE.out
  have hre := HRE.out
  have hb1 : Below w.heap.size w (w.alloc (.cells #[.int .i64 edge, .bool true, .bool true, .int .u64 ses, .int .u64 seq, .int .i64 op, .string ⟨ckey.toArray⟩, .int .i64 amount, .int .i64 span, .int .u64 lease, .string ⟨key.toArray⟩, .int .i64 beg, .int .i64 fin, .int .u64 rses, .int .u64 rseq, .int .i64 re, .int .u64 rlease, .int .i64 ramount, .int .i64 rtil, .int .i64 cap, .int .i64 lent] 48)) := (Below.refl _ _).alloc (Nat.le_refl _) _
  have hz1 : (w.alloc (.cells #[.int .i64 edge, .bool true, .bool true, .int .u64 ses, .int .u64 seq, .int .i64 op, .string ⟨ckey.toArray⟩, .int .i64 amount, .int .i64 span, .int .u64 lease, .string ⟨key.toArray⟩, .int .i64 beg, .int .i64 fin, .int .u64 rses, .int .u64 rseq, .int .i64 re, .int .u64 rlease, .int .i64 ramount, .int .i64 rtil, .int .i64 cap, .int .i64 lent] 48)).heap.size = w.heap.size + 1 := by simp
  have hk1 : Blk (w.alloc (.cells #[.int .i64 edge, .bool true, .bool true, .int .u64 ses, .int .u64 seq, .int .i64 op, .string ⟨ckey.toArray⟩, .int .i64 amount, .int .i64 span, .int .u64 lease, .string ⟨key.toArray⟩, .int .i64 beg, .int .i64 fin, .int .u64 rses, .int .u64 rseq, .int .i64 re, .int .u64 rlease, .int .i64 ramount, .int .i64 rtil, .int .i64 cap, .int .i64 lent] 48)) w.heap.size 48 #[.int .i64 edge, .bool true, .bool true, .int .u64 ses, .int .u64 seq, .int .i64 op, .string ⟨ckey.toArray⟩, .int .i64 amount, .int .i64 span, .int .u64 lease, .string ⟨key.toArray⟩, .int .i64 beg, .int .i64 fin, .int .u64 rses, .int .u64 rseq, .int .i64 re, .int .u64 rlease, .int .i64 ramount, .int .i64 rtil, .int .i64 cap, .int .i64 lent] := Blk.new w _ _
  have hb2 : Below (w.heap.size + 1) (w.alloc (.cells #[.int .i64 edge, .bool true, .bool true, .int .u64 ses, .int .u64 seq, .int .i64 op, .string ⟨ckey.toArray⟩, .int .i64 amount, .int .i64 span, .int .u64 lease, .string ⟨key.toArray⟩, .int .i64 beg, .int .i64 fin, .int .u64 rses, .int .u64 rseq, .int .i64 re, .int .u64 rlease, .int .i64 ramount, .int .i64 rtil, .int .i64 cap, .int .i64 lent] 48)) ((w.alloc (.cells #[.int .i64 edge, .bool true, .bool true, .int .u64 ses, .int .u64 seq, .int .i64 op, .string ⟨ckey.toArray⟩, .int .i64 amount, .int .i64 span, .int .u64 lease, .string ⟨key.toArray⟩, .int .i64 beg, .int .i64 fin, .int .u64 rses, .int .u64 rseq, .int .i64 re, .int .u64 rlease, .int .i64 ramount, .int .i64 rtil, .int .i64 cap, .int .i64 lent] 48)).alloc (.cells #[.pointer none, .slice none 0 0] Tw)) := (Below.refl _ _).alloc (by simp) _
  have hz2 : ((w.alloc (.cells #[.int .i64 edge, .bool true, .bool true, .int .u64 ses, .int .u64 seq, .int .i64 op, .string ⟨ckey.toArray⟩, .int .i64 amount, .int .i64 span, .int .u64 lease, .string ⟨key.toArray⟩, .int .i64 beg, .int .i64 fin, .int .u64 rses, .int .u64 rseq, .int .i64 re, .int .u64 rlease, .int .i64 ramount, .int .i64 rtil, .int .i64 cap, .int .i64 lent] 48)).alloc (.cells #[.pointer none, .slice none 0 0] Tw)).heap.size = w.heap.size + 1 + 1 := by simp
  have hk2 : Blk ((w.alloc (.cells #[.int .i64 edge, .bool true, .bool true, .int .u64 ses, .int .u64 seq, .int .i64 op, .string ⟨ckey.toArray⟩, .int .i64 amount, .int .i64 span, .int .u64 lease, .string ⟨key.toArray⟩, .int .i64 beg, .int .i64 fin, .int .u64 rses, .int .u64 rseq, .int .i64 re, .int .u64 rlease, .int .i64 ramount, .int .i64 rtil, .int .i64 cap, .int .i64 lent] 48)).alloc (.cells #[.pointer none, .slice none 0 0] Tw)) w.heap.size 48 #[.int .i64 edge, .bool true, .bool true, .int .u64 ses, .int .u64 seq, .int .i64 op, .string ⟨ckey.toArray⟩, .int .i64 amount, .int .i64 span, .int .u64 lease, .string ⟨key.toArray⟩, .int .i64 beg, .int .i64 fin, .int .u64 rses, .int .u64 rseq, .int .i64 re, .int .u64 rlease, .int .i64 ramount, .int .i64 rtil, .int .i64 cap, .int .i64 lent] := hk1.below hb2 (by omega)
  have hw2 : WB ((w.alloc (.cells #[.int .i64 edge, .bool true, .bool true, .int .u64 ses, .int .u64 seq, .int .i64 op, .string ⟨ckey.toArray⟩, .int .i64 amount, .int .i64 span, .int .u64 lease, .string ⟨key.toArray⟩, .int .i64 beg, .int .i64 fin, .int .u64 rses, .int .u64 rseq, .int .i64 re, .int .u64 rlease, .int .i64 ramount, .int .i64 rtil, .int .i64 cap, .int .i64 lent] 48)).alloc (.cells #[.pointer none, .slice none 0 0] Tw)) Tw (w.heap.size + 1) (w.heap.size + 1) [] := by
    have := WB.new (w.alloc (.cells #[.int .i64 edge, .bool true, .bool true, .int .u64 ses, .int .u64 seq, .int .i64 op, .string ⟨ckey.toArray⟩, .int .i64 amount, .int .i64 span, .int .u64 lease, .string ⟨key.toArray⟩, .int .i64 beg, .int .i64 fin, .int .u64 rses, .int .u64 rseq, .int .i64 re, .int .u64 rlease, .int .i64 ramount, .int .i64 rtil, .int .i64 cap, .int .i64 lent] 48)) Tw (B := w.heap.size + 1) (by simp)
    rwa [hz1] at this
  obtain ⟨hb3, hr3⟩ := laid_row ((w.alloc (.cells #[.int .i64 edge, .bool true, .bool true, .int .u64 ses, .int .u64 seq, .int .i64 op, .string ⟨ckey.toArray⟩, .int .i64 amount, .int .i64 span, .int .u64 lease, .string ⟨key.toArray⟩, .int .i64 beg, .int .i64 fin, .int .u64 rses, .int .u64 rseq, .int .i64 re, .int .u64 rlease, .int .i64 ramount, .int .i64 rtil, .int .i64 cap, .int .i64 lent] 48)).alloc (.cells #[.pointer none, .slice none 0 0] Tw)) #[.int .u64 0, .int .u64 0, .int .i64 0, .int .u64 0, .int .i64 0, .int .i64 0] #[.int .u64 rses, .int .u64 rseq, .int .i64 re, .int .u64 rlease, .int .i64 ramount, .int .i64 rtil] 46
  rw [hz2] at hb3 hr3
  have HN : Hid (Blk (((w.alloc (.cells #[.int .i64 edge, .bool true, .bool true, .int .u64 ses, .int .u64 seq, .int .i64 op, .string ⟨ckey.toArray⟩, .int .i64 amount, .int .i64 span, .int .u64 lease, .string ⟨key.toArray⟩, .int .i64 beg, .int .i64 fin, .int .u64 rses, .int .u64 rseq, .int .i64 re, .int .u64 rlease, .int .i64 ramount, .int .i64 rtil, .int .i64 cap, .int .i64 lent] 48)).alloc (.cells #[.pointer none, .slice none 0 0] Tw)).alloc (.cells #[.int .u64 0, .int .u64 0, .int .i64 0, .int .u64 0, .int .i64 0, .int .i64 0] 46)) (w.heap.size + 1 + 1) 46 #[.int .u64 0, .int .u64 0, .int .i64 0, .int .u64 0, .int .i64 0, .int .i64 0]) := Lib.hid (by
    have := Blk.new ((w.alloc (.cells #[.int .i64 edge, .bool true, .bool true, .int .u64 ses, .int .u64 seq, .int .i64 op, .string ⟨ckey.toArray⟩, .int .i64 amount, .int .i64 span, .int .u64 lease, .string ⟨key.toArray⟩, .int .i64 beg, .int .i64 fin, .int .u64 rses, .int .u64 rseq, .int .i64 re, .int .u64 rlease, .int .i64 ramount, .int .i64 rtil, .int .i64 cap, .int .i64 lent] 48)).alloc (.cells #[.pointer none, .slice none 0 0] Tw)) #[.int .u64 0, .int .u64 0, .int .i64 0, .int .u64 0, .int .i64 0, .int .i64 0] 46
    rwa [hz2] at this)
  have HK3 := Lib.hid (hk2.below hb3 (by omega))
  have HW3 := Lib.hid (hw2.below (by rw [hz2]; exact hb3))
  have HR3 := Lib.hid hr3
  have HB3 := Lib.hid ((hb1.trans (hb2.mono (by omega))).trans (hb3.mono (by omega)))
  have HE3 : Hid (Env (w.heap.size + 1) ((((w.alloc (.cells #[.int .i64 edge, .bool true, .bool true, .int .u64 ses, .int .u64 seq, .int .i64 op, .string ⟨ckey.toArray⟩, .int .i64 amount, .int .i64 span, .int .u64 lease, .string ⟨key.toArray⟩, .int .i64 beg, .int .i64 fin, .int .u64 rses, .int .u64 rseq, .int .i64 re, .int .u64 rlease, .int .i64 ramount, .int .i64 rtil, .int .i64 cap, .int .i64 lent] 48)).alloc (.cells #[.pointer none, .slice none 0 0] Tw)).alloc (.cells #[.int .u64 0, .int .u64 0, .int .i64 0, .int .u64 0, .int .i64 0, .int .i64 0] 46)).setRow (w.heap.size + 1 + 1) #[.int .u64 rses, .int .u64 rseq, .int .i64 re, .int .u64 rlease, .int .i64 ramount, .int .i64 rtil])) := Lib.hid ((hE.below HB3.out).up (by omega))
  have hsz := HR3.out.lt
  clear hb1 hz1 hk1 hb2 hz2 hk2 hw2 hb3 hr3 hE
  have hgb : w.heap.size ≠ w.heap.size + 1 := by omega
  have hk : ¬ (64 : Int) < (key.length : Int) := by omega
  clear HCE HRE
  go_enter Tryd.func16, Tryd.ntmps16
  go_wp2_with ((refine wpList_store_row rfl 46 (.tmp 5) (.tmp 9) rfl (w.heap.size + 1 + 1) #[.int .u64 rses, .int .u64 rseq, .int .i64 re, .int .u64 rlease, .int .i64 ramount, .int .i64 rtil] rfl rfl _ _ HN.out rep_size rfl (by simp [Value.oneCell']) ?_; clear HN; generalize ((((w.alloc (.cells #[.int .i64 edge, .bool true, .bool true, .int .u64 ses, .int .u64 seq, .int .i64 op, .string ⟨ckey.toArray⟩, .int .i64 amount, .int .i64 span, .int .u64 lease, .string ⟨key.toArray⟩, .int .i64 beg, .int .i64 fin, .int .u64 rses, .int .u64 rseq, .int .i64 re, .int .u64 rlease, .int .i64 ramount, .int .i64 rtil, .int .i64 cap, .int .i64 lent] 48)).alloc (.cells #[.pointer none, .slice none 0 0] Tw)).alloc (.cells #[.int .u64 0, .int .u64 0, .int .i64 0, .int .u64 0, .int .i64 0, .int .i64 0] 46)).setRow (w.heap.size + 1 + 1) #[.int .u64 rses, .int .u64 rseq, .int .i64 re, .int .u64 rlease, .int .i64 ramount, .int .i64 rtil]) = w3 at *; have c0 := HK3.out.cell 0 rfl; have c1 := HK3.out.cell 1 rfl; have c2 := HK3.out.cell 2 rfl; have c3 := HK3.out.cell 3 rfl; have c4 := HK3.out.cell 4 rfl; have c5 := HK3.out.cell 5 rfl; have c6 := HK3.out.cell 6 rfl; have c7 := HK3.out.cell 7 rfl; have c8 := HK3.out.cell 8 rfl; have c9 := HK3.out.cell 9 rfl; have c10 := HK3.out.cell 10 rfl; have c11 := HK3.out.cell 11 rfl; have c12 := HK3.out.cell 12 rfl; have c13 := HK3.out.cell 13 rfl; have c14 := HK3.out.cell 14 rfl; have c15 := HK3.out.cell 15 rfl; have c16 := HK3.out.cell 16 rfl; have c17 := HK3.out.cell 17 rfl; have c18 := HK3.out.cell 18 rfl; have c19 := HK3.out.cell 19 rfl; have c20 := HK3.out.cell 20 rfl; have r0 := HR3.out.cell 0 rfl; have r1 := HR3.out.cell 1 rfl; have r2 := HR3.out.cell 2 rfl; have r3 := HR3.out.cell 3 rfl; have r4 := HR3.out.cell 4 rfl; have r5 := HR3.out.cell 5 rfl); repeat (first | go_values | go_skip | go_guarded | go_step))
  go_wp2_with ((go_at_call 28; refine (wordW (w.heap.size + 1) (w.heap.size + 1) [] wLazy _ HW3.out (by decide) (by omega)).mono ?_))
  rintro e w4 ⟨rfl, q4, k4⟩
  rw [addw_nil] at q4
  have hb4 := HK3.out.kp k4 (by decide) hgb
  have hE4 := HE3.out.kp k4
  have hB4 := HB3.out.trans (k4.below.mono (by omega))
  have z4 := k4.size
  clear HK3 HE3 HB3 HR3 HW3 k4 hce hre c0 c1 c2 c3 c4 c5 c6 c7 c8 c9 c10 c11 c12 c13 c14 c15 c16 c17 c18 c19 c20 r0 r1 r2 r3 r4 r5
  have c0 := hb4.cell 0 rfl
  have c11 := hb4.cell 11 rfl
  have c12 := hb4.cell 12 rfl
  go_wp2_with (go_at_call 29; refine (intsW (w.heap.size + 1) (w.heap.size + 1) wLazy w4.heap.size 3 [edge, beg, fin] _ (q4.alloc _) ?a3 ?a4 (by simp) (by decide) (hE4.alloc (by omega) _) (by simp; omega)).mono ?_)
  case a3 => exact Blk.of_alloc w4 [Value.int .i64 edge, Value.int .i64 beg, Value.int .i64 fin] 2
  case a4 => intro z hz; simp at hz; rcases hz with rfl | rfl | rfl <;> omega
  rintro e w5 ⟨rfl, q5, k5⟩
  rw [E1.out] at q5
  have hb5 := (hb4.kept ((Below.refl _ _).alloc (Nat.le_refl _) _)).kp k5 (by decide) hgb
  have hE5 := (hE4.alloc (by omega) _).kp k5
  have hB5 := (hB4.alloc (by omega) _).trans (k5.below.mono (by omega))
  have z5 : w4.heap.size + 1 ≤ w5.heap.size := by have := k5.size; simpa using this
  clear hb4 q4 hE4 hB4 k5 c0 c11 c12
  have c1 := hb5.cell 1 rfl
  have c10 := hb5.cell 10 rfl
  go_wp2_with (go_at_call 49; refine (keyW (w.heap.size + 1) (w.heap.size + 1) l1 key _ q5 hkl (by omega) (by omega)).mono ?_)
  rintro e w6 ⟨rfl, q6, k6⟩
  rw [E2.out] at q6
  have hb6 := hb5.kp k6 (by decide) hgb
  have hE6 := hE5.kp k6
  have hB6 := hB5.trans (k6.below.mono (by omega))
  have z6 := k6.size
  clear hb5 q5 hE5 hB5 k6 c1 c10
  have c19 := hb6.cell 19 rfl
  have c20 := hb6.cell 20 rfl
  go_wp2_with (go_at_call 29; refine (intsW (w.heap.size + 1) (w.heap.size + 1) l2 w6.heap.size 2 [cap, lent] _ (q6.alloc _) ?a5 ?a6 (by simp) (by omega) (hE6.alloc (by omega) _) (by simp; omega)).mono ?_)
  case a5 => exact Blk.of_alloc w6 [Value.int .i64 cap, Value.int .i64 lent] 2
  case a6 => intro z hz; simp at hz; rcases hz with rfl | rfl <;> omega
  rintro e w7 ⟨rfl, q7, k7⟩
  rw [HL.out] at q7
  have hB7 := (hB6.alloc (by omega) _).trans (k7.below.mono (by omega))
  have z7 : w6.heap.size + 1 ≤ w7.heap.size := by have := k7.size; simpa using this
  clear hb6 q6 hE6 hB6 k7 c19 c20
  go_wp2_with (go_at_call 25; refine (stringW Tw (w.heap.size + 1) (w.heap.size + 1) _ _ q7 HNE.out).mono ?_)
  rintro e w8 ⟨rfl, hb8⟩
  go_wp2_with fail
  go_ret2
  exact HYES.out _ HLN.out _ (hB7.trans (hb8.mono (by omega)))
set_option maxRecDepth 20000 in
set_option maxHeartbeats 4000000 in
theorem scrCallLook (c : Cl) (hc : c.wf) (hlk : c.look = true) (hlz : c.lazy = false) (hok : c.ok = true) (w : World) (hE : Env w.heap.size w) : Calls Tryd.prog 16 #[.agg c.cells.toArray] w (CallE c w) := by
  have HOK := Lib.hid hok
  have HNE := Lib.hid (Cl.line_ne c)
  have hok' := hok
  simp only [Cl.ok, hlk, if_true, Bool.and_eq_true, decide_eq_true_eq] at hok'
  obtain ⟨⟨hkl, hcz⟩, hrz⟩ := hok'
  have HCE := Lib.hid (fun W => cmd_eq c.cmd Cm.zero W 9998)
  have HRE := Lib.hid (fun W => rep_eq c.rep Rp.zero W 9998)
  rw [cm_zero_cells, decide_eq_true hcz] at HCE
  rw [rp_zero_cells, decide_eq_true hrz] at HRE
  have HL : Hid (addws (addw (addws wLook ([c.edge, c.beg, c.fin].map Lib.itoa)) (120 :: hexs c.key)) ([c.cap, c.lent].map Lib.itoa) = c.line) := Lib.hid (by
    rw [show addw (addws wLook ([c.edge, c.beg, c.fin].map Lib.itoa)) (120 :: hexs c.key) = addws (addws wLook ([c.edge, c.beg, c.fin].map Lib.itoa)) [120 :: hexs c.key] from rfl, ← addws_append, ← addws_append, addws_tail (by decide)]
    simp [Cl.line, Cl.head, Cl.rest, hlk, hlz])
  obtain ⟨⟨g1, g2⟩, _, _, ⟨g3, g4⟩, ⟨g5, g6⟩, _, ⟨g7, g8⟩, g9, g10⟩ := hc
  have HYES := Lib.hid (fun l (hl : l = c.line) w' hb => callE_yes (w := w) (w' := w') (l := l) HOK.out hl hb)
  obtain ⟨ln, hln⟩ : ∃ ln, ln = c.line := ⟨_, rfl⟩
  have HLN := Lib.hid hln
  rw [← hln] at HNE HL
  clear hok hln hcz hrz
  obtain ⟨edge, look, lazy, ⟨ses, seq, op, ckey, amount, span, lease⟩, key, beg, fin, ⟨rses, rseq, re, rlease, ramount, rtil⟩, cap, lent⟩ := c
  simp only at *
  subst hlk hlz
  have hx1 : (addws wLook ([edge, beg, fin].map Lib.itoa)).length ≤ 200 := by
    have := addws_len (k := 21) ([edge, beg, fin].map Lib.itoa) wLook (by intro s hs; simp at hs; rcases hs with rfl | rfl | rfl <;> (have := itoa_len g1 g2; have := itoa_len g3 g4; have := itoa_len g5 g6; omega))
    simp only [List.map_cons, List.map_nil, List.length_cons, List.length_nil] at this ⊢
    have h4 : (wLook : List UInt8).length = 4 := rfl
    omega
  generalize e1 : addws wLook ([edge, beg, fin].map Lib.itoa) = l1 at *
  have hx2 : (addw l1 (120 :: hexs key)).length ≤ 500 := by
    have := addw_len l1 (120 :: hexs key)
    simp only [List.length_cons, hexs_len] at this
    omega
  generalize e2 : addw l1 (120 :: hexs key) = l2 at *
  have E1 := Lib.hid e1
  have E2 := Lib.hid e2
  clear e1 e2
  unfold Cl.cells Cm.cells Rp.cells at *
  simp only [List.cons_append, List.nil_append] at *
  have hce := HCE.out
  have hre := HRE.out
  have hb1 : Below w.heap.size w (w.alloc (.cells #[.int .i64 edge, .bool true, .bool false, .int .u64 ses, .int .u64 seq, .int .i64 op, .string ⟨ckey.toArray⟩, .int .i64 amount, .int .i64 span, .int .u64 lease, .string ⟨key.toArray⟩, .int .i64 beg, .int .i64 fin, .int .u64 rses, .int .u64 rseq, .int .i64 re, .int .u64 rlease, .int .i64 ramount, .int .i64 rtil, .int .i64 cap, .int .i64 lent] 48)) := (Below.refl _ _).alloc (Nat.le_refl _) _
  have hz1 : (w.alloc (.cells #[.int .i64 edge, .bool true, .bool false, .int .u64 ses, .int .u64 seq, .int .i64 op, .string ⟨ckey.toArray⟩, .int .i64 amount, .int .i64 span, .int .u64 lease, .string ⟨key.toArray⟩, .int .i64 beg, .int .i64 fin, .int .u64 rses, .int .u64 rseq, .int .i64 re, .int .u64 rlease, .int .i64 ramount, .int .i64 rtil, .int .i64 cap, .int .i64 lent] 48)).heap.size = w.heap.size + 1 := by simp
  have hk1 : Blk (w.alloc (.cells #[.int .i64 edge, .bool true, .bool false, .int .u64 ses, .int .u64 seq, .int .i64 op, .string ⟨ckey.toArray⟩, .int .i64 amount, .int .i64 span, .int .u64 lease, .string ⟨key.toArray⟩, .int .i64 beg, .int .i64 fin, .int .u64 rses, .int .u64 rseq, .int .i64 re, .int .u64 rlease, .int .i64 ramount, .int .i64 rtil, .int .i64 cap, .int .i64 lent] 48)) w.heap.size 48 #[.int .i64 edge, .bool true, .bool false, .int .u64 ses, .int .u64 seq, .int .i64 op, .string ⟨ckey.toArray⟩, .int .i64 amount, .int .i64 span, .int .u64 lease, .string ⟨key.toArray⟩, .int .i64 beg, .int .i64 fin, .int .u64 rses, .int .u64 rseq, .int .i64 re, .int .u64 rlease, .int .i64 ramount, .int .i64 rtil, .int .i64 cap, .int .i64 lent] := Blk.new w _ _
  have hb2 : Below (w.heap.size + 1) (w.alloc (.cells #[.int .i64 edge, .bool true, .bool false, .int .u64 ses, .int .u64 seq, .int .i64 op, .string ⟨ckey.toArray⟩, .int .i64 amount, .int .i64 span, .int .u64 lease, .string ⟨key.toArray⟩, .int .i64 beg, .int .i64 fin, .int .u64 rses, .int .u64 rseq, .int .i64 re, .int .u64 rlease, .int .i64 ramount, .int .i64 rtil, .int .i64 cap, .int .i64 lent] 48)) ((w.alloc (.cells #[.int .i64 edge, .bool true, .bool false, .int .u64 ses, .int .u64 seq, .int .i64 op, .string ⟨ckey.toArray⟩, .int .i64 amount, .int .i64 span, .int .u64 lease, .string ⟨key.toArray⟩, .int .i64 beg, .int .i64 fin, .int .u64 rses, .int .u64 rseq, .int .i64 re, .int .u64 rlease, .int .i64 ramount, .int .i64 rtil, .int .i64 cap, .int .i64 lent] 48)).alloc (.cells #[.pointer none, .slice none 0 0] Tw)) := (Below.refl _ _).alloc (by simp) _
  have hz2 : ((w.alloc (.cells #[.int .i64 edge, .bool true, .bool false, .int .u64 ses, .int .u64 seq, .int .i64 op, .string ⟨ckey.toArray⟩, .int .i64 amount, .int .i64 span, .int .u64 lease, .string ⟨key.toArray⟩, .int .i64 beg, .int .i64 fin, .int .u64 rses, .int .u64 rseq, .int .i64 re, .int .u64 rlease, .int .i64 ramount, .int .i64 rtil, .int .i64 cap, .int .i64 lent] 48)).alloc (.cells #[.pointer none, .slice none 0 0] Tw)).heap.size = w.heap.size + 1 + 1 := by simp
  have hk2 : Blk ((w.alloc (.cells #[.int .i64 edge, .bool true, .bool false, .int .u64 ses, .int .u64 seq, .int .i64 op, .string ⟨ckey.toArray⟩, .int .i64 amount, .int .i64 span, .int .u64 lease, .string ⟨key.toArray⟩, .int .i64 beg, .int .i64 fin, .int .u64 rses, .int .u64 rseq, .int .i64 re, .int .u64 rlease, .int .i64 ramount, .int .i64 rtil, .int .i64 cap, .int .i64 lent] 48)).alloc (.cells #[.pointer none, .slice none 0 0] Tw)) w.heap.size 48 #[.int .i64 edge, .bool true, .bool false, .int .u64 ses, .int .u64 seq, .int .i64 op, .string ⟨ckey.toArray⟩, .int .i64 amount, .int .i64 span, .int .u64 lease, .string ⟨key.toArray⟩, .int .i64 beg, .int .i64 fin, .int .u64 rses, .int .u64 rseq, .int .i64 re, .int .u64 rlease, .int .i64 ramount, .int .i64 rtil, .int .i64 cap, .int .i64 lent] := hk1.below hb2 (by omega)
  have hw2 : WB ((w.alloc (.cells #[.int .i64 edge, .bool true, .bool false, .int .u64 ses, .int .u64 seq, .int .i64 op, .string ⟨ckey.toArray⟩, .int .i64 amount, .int .i64 span, .int .u64 lease, .string ⟨key.toArray⟩, .int .i64 beg, .int .i64 fin, .int .u64 rses, .int .u64 rseq, .int .i64 re, .int .u64 rlease, .int .i64 ramount, .int .i64 rtil, .int .i64 cap, .int .i64 lent] 48)).alloc (.cells #[.pointer none, .slice none 0 0] Tw)) Tw (w.heap.size + 1) (w.heap.size + 1) [] := by
    have := WB.new (w.alloc (.cells #[.int .i64 edge, .bool true, .bool false, .int .u64 ses, .int .u64 seq, .int .i64 op, .string ⟨ckey.toArray⟩, .int .i64 amount, .int .i64 span, .int .u64 lease, .string ⟨key.toArray⟩, .int .i64 beg, .int .i64 fin, .int .u64 rses, .int .u64 rseq, .int .i64 re, .int .u64 rlease, .int .i64 ramount, .int .i64 rtil, .int .i64 cap, .int .i64 lent] 48)) Tw (B := w.heap.size + 1) (by simp)
    rwa [hz1] at this
  obtain ⟨hb3, hr3⟩ := laid_row ((w.alloc (.cells #[.int .i64 edge, .bool true, .bool false, .int .u64 ses, .int .u64 seq, .int .i64 op, .string ⟨ckey.toArray⟩, .int .i64 amount, .int .i64 span, .int .u64 lease, .string ⟨key.toArray⟩, .int .i64 beg, .int .i64 fin, .int .u64 rses, .int .u64 rseq, .int .i64 re, .int .u64 rlease, .int .i64 ramount, .int .i64 rtil, .int .i64 cap, .int .i64 lent] 48)).alloc (.cells #[.pointer none, .slice none 0 0] Tw)) #[.int .u64 0, .int .u64 0, .int .i64 0, .int .u64 0, .int .i64 0, .int .i64 0] #[.int .u64 rses, .int .u64 rseq, .int .i64 re, .int .u64 rlease, .int .i64 ramount, .int .i64 rtil] 46
  rw [hz2] at hb3 hr3
  have HN : Hid (Blk (((w.alloc (.cells #[.int .i64 edge, .bool true, .bool false, .int .u64 ses, .int .u64 seq, .int .i64 op, .string ⟨ckey.toArray⟩, .int .i64 amount, .int .i64 span, .int .u64 lease, .string ⟨key.toArray⟩, .int .i64 beg, .int .i64 fin, .int .u64 rses, .int .u64 rseq, .int .i64 re, .int .u64 rlease, .int .i64 ramount, .int .i64 rtil, .int .i64 cap, .int .i64 lent] 48)).alloc (.cells #[.pointer none, .slice none 0 0] Tw)).alloc (.cells #[.int .u64 0, .int .u64 0, .int .i64 0, .int .u64 0, .int .i64 0, .int .i64 0] 46)) (w.heap.size + 1 + 1) 46 #[.int .u64 0, .int .u64 0, .int .i64 0, .int .u64 0, .int .i64 0, .int .i64 0]) := Lib.hid (by
    have := Blk.new ((w.alloc (.cells #[.int .i64 edge, .bool true, .bool false, .int .u64 ses, .int .u64 seq, .int .i64 op, .string ⟨ckey.toArray⟩, .int .i64 amount, .int .i64 span, .int .u64 lease, .string ⟨key.toArray⟩, .int .i64 beg, .int .i64 fin, .int .u64 rses, .int .u64 rseq, .int .i64 re, .int .u64 rlease, .int .i64 ramount, .int .i64 rtil, .int .i64 cap, .int .i64 lent] 48)).alloc (.cells #[.pointer none, .slice none 0 0] Tw)) #[.int .u64 0, .int .u64 0, .int .i64 0, .int .u64 0, .int .i64 0, .int .i64 0] 46
    rwa [hz2] at this)
  have HK3 := Lib.hid (hk2.below hb3 (by omega))
  have HW3 := Lib.hid (hw2.below (by rw [hz2]; exact hb3))
  have HR3 := Lib.hid hr3
  have HB3 := Lib.hid ((hb1.trans (hb2.mono (by omega))).trans (hb3.mono (by omega)))
  have HE3 : Hid (Env (w.heap.size + 1) ((((w.alloc (.cells #[.int .i64 edge, .bool true, .bool false, .int .u64 ses, .int .u64 seq, .int .i64 op, .string ⟨ckey.toArray⟩, .int .i64 amount, .int .i64 span, .int .u64 lease, .string ⟨key.toArray⟩, .int .i64 beg, .int .i64 fin, .int .u64 rses, .int .u64 rseq, .int .i64 re, .int .u64 rlease, .int .i64 ramount, .int .i64 rtil, .int .i64 cap, .int .i64 lent] 48)).alloc (.cells #[.pointer none, .slice none 0 0] Tw)).alloc (.cells #[.int .u64 0, .int .u64 0, .int .i64 0, .int .u64 0, .int .i64 0, .int .i64 0] 46)).setRow (w.heap.size + 1 + 1) #[.int .u64 rses, .int .u64 rseq, .int .i64 re, .int .u64 rlease, .int .i64 ramount, .int .i64 rtil])) := Lib.hid ((hE.below HB3.out).up (by omega))
  have hsz := HR3.out.lt
  clear hb1 hz1 hk1 hb2 hz2 hk2 hw2 hb3 hr3 hE
  have hgb : w.heap.size ≠ w.heap.size + 1 := by omega
  have hk : ¬ (64 : Int) < (key.length : Int) := by omega
  clear HCE HRE
  go_enter Tryd.func16, Tryd.ntmps16
  go_wp2_with ((refine wpList_store_row rfl 46 (.tmp 5) (.tmp 9) rfl (w.heap.size + 1 + 1) #[.int .u64 rses, .int .u64 rseq, .int .i64 re, .int .u64 rlease, .int .i64 ramount, .int .i64 rtil] rfl rfl _ _ HN.out rep_size rfl (by simp [Value.oneCell']) ?_; clear HN; generalize ((((w.alloc (.cells #[.int .i64 edge, .bool true, .bool false, .int .u64 ses, .int .u64 seq, .int .i64 op, .string ⟨ckey.toArray⟩, .int .i64 amount, .int .i64 span, .int .u64 lease, .string ⟨key.toArray⟩, .int .i64 beg, .int .i64 fin, .int .u64 rses, .int .u64 rseq, .int .i64 re, .int .u64 rlease, .int .i64 ramount, .int .i64 rtil, .int .i64 cap, .int .i64 lent] 48)).alloc (.cells #[.pointer none, .slice none 0 0] Tw)).alloc (.cells #[.int .u64 0, .int .u64 0, .int .i64 0, .int .u64 0, .int .i64 0, .int .i64 0] 46)).setRow (w.heap.size + 1 + 1) #[.int .u64 rses, .int .u64 rseq, .int .i64 re, .int .u64 rlease, .int .i64 ramount, .int .i64 rtil]) = w3 at *; have c0 := HK3.out.cell 0 rfl; have c1 := HK3.out.cell 1 rfl; have c2 := HK3.out.cell 2 rfl; have c3 := HK3.out.cell 3 rfl; have c4 := HK3.out.cell 4 rfl; have c5 := HK3.out.cell 5 rfl; have c6 := HK3.out.cell 6 rfl; have c7 := HK3.out.cell 7 rfl; have c8 := HK3.out.cell 8 rfl; have c9 := HK3.out.cell 9 rfl; have c10 := HK3.out.cell 10 rfl; have c11 := HK3.out.cell 11 rfl; have c12 := HK3.out.cell 12 rfl; have c13 := HK3.out.cell 13 rfl; have c14 := HK3.out.cell 14 rfl; have c15 := HK3.out.cell 15 rfl; have c16 := HK3.out.cell 16 rfl; have c17 := HK3.out.cell 17 rfl; have c18 := HK3.out.cell 18 rfl; have c19 := HK3.out.cell 19 rfl; have c20 := HK3.out.cell 20 rfl; have r0 := HR3.out.cell 0 rfl; have r1 := HR3.out.cell 1 rfl; have r2 := HR3.out.cell 2 rfl; have r3 := HR3.out.cell 3 rfl; have r4 := HR3.out.cell 4 rfl; have r5 := HR3.out.cell 5 rfl); repeat (first | go_values | go_skip | go_guarded | go_step))
  go_wp2_with ((go_at_call 28; refine (wordW (w.heap.size + 1) (w.heap.size + 1) [] wLook _ HW3.out (by decide) (by omega)).mono ?_))
  rintro e w4 ⟨rfl, q4, k4⟩
  rw [addw_nil] at q4
  have hb4 := HK3.out.kp k4 (by decide) hgb
  have hE4 := HE3.out.kp k4
  have hB4 := HB3.out.trans (k4.below.mono (by omega))
  have z4 := k4.size
  clear HK3 HE3 HB3 HR3 HW3 k4 hce hre c0 c1 c2 c3 c4 c5 c6 c7 c8 c9 c10 c11 c12 c13 c14 c15 c16 c17 c18 c19 c20 r0 r1 r2 r3 r4 r5
  have c0 := hb4.cell 0 rfl
  have c11 := hb4.cell 11 rfl
  have c12 := hb4.cell 12 rfl
  go_wp2_with (go_at_call 29; refine (intsW (w.heap.size + 1) (w.heap.size + 1) wLook w4.heap.size 3 [edge, beg, fin] _ (q4.alloc _) ?a3 ?a4 (by simp) (by decide) (hE4.alloc (by omega) _) (by simp; omega)).mono ?_)
  case a3 => exact Blk.of_alloc w4 [Value.int .i64 edge, Value.int .i64 beg, Value.int .i64 fin] 2
  case a4 => intro z hz; simp at hz; rcases hz with rfl | rfl | rfl <;> omega
  rintro e w5 ⟨rfl, q5, k5⟩
  rw [E1.out] at q5
  have hb5 := (hb4.kept ((Below.refl _ _).alloc (Nat.le_refl _) _)).kp k5 (by decide) hgb
  have hE5 := (hE4.alloc (by omega) _).kp k5
  have hB5 := (hB4.alloc (by omega) _).trans (k5.below.mono (by omega))
  have z5 : w4.heap.size + 1 ≤ w5.heap.size := by have := k5.size; simpa using this
  clear hb4 q4 hE4 hB4 k5 c0 c11 c12
  have c1 := hb5.cell 1 rfl
  have c10 := hb5.cell 10 rfl
  go_wp2_with (go_at_call 49; refine (keyW (w.heap.size + 1) (w.heap.size + 1) l1 key _ q5 hkl (by omega) (by omega)).mono ?_)
  rintro e w6 ⟨rfl, q6, k6⟩
  rw [E2.out] at q6
  have hb6 := hb5.kp k6 (by decide) hgb
  have hE6 := hE5.kp k6
  have hB6 := hB5.trans (k6.below.mono (by omega))
  have z6 := k6.size
  clear hb5 q5 hE5 hB5 k6 c1 c10
  have c19 := hb6.cell 19 rfl
  have c20 := hb6.cell 20 rfl
  go_wp2_with (go_at_call 29; refine (intsW (w.heap.size + 1) (w.heap.size + 1) l2 w6.heap.size 2 [cap, lent] _ (q6.alloc _) ?a5 ?a6 (by simp) (by omega) (hE6.alloc (by omega) _) (by simp; omega)).mono ?_)
  case a5 => exact Blk.of_alloc w6 [Value.int .i64 cap, Value.int .i64 lent] 2
  case a6 => intro z hz; simp at hz; rcases hz with rfl | rfl <;> omega
  rintro e w7 ⟨rfl, q7, k7⟩
  rw [HL.out] at q7
  have hB7 := (hB6.alloc (by omega) _).trans (k7.below.mono (by omega))
  have z7 : w6.heap.size + 1 ≤ w7.heap.size := by have := k7.size; simpa using this
  clear hb6 q6 hE6 hB6 k7 c19 c20
  go_wp2_with (go_at_call 25; refine (stringW Tw (w.heap.size + 1) (w.heap.size + 1) _ _ q7 HNE.out).mono ?_)
  rintro e w8 ⟨rfl, hb8⟩
  go_wp2_with fail
  go_ret2
  exact HYES.out _ HLN.out _ (hB7.trans (hb8.mono (by omega)))
set_option maxRecDepth 20000 in
set_option maxHeartbeats 4000000 in
theorem scrCallCall (c : Cl) (hc : c.wf) (hlk : c.look = false) (hok : c.ok = true) (w : World) (hE : Env w.heap.size w) : Calls Tryd.prog 16 #[.agg c.cells.toArray] w (CallE c w) := by
  have HOK := Lib.hid hok
  have HNE := Lib.hid (Cl.line_ne c)
  have hok' := hok
  simp only [Cl.ok, hlk, Bool.false_eq_true, if_false, Bool.and_eq_true, decide_eq_true_eq, Bool.not_eq_true'] at hok'
  obtain ⟨⟨⟨⟨⟨⟨o1, o2⟩, o3⟩, o4⟩, o5⟩, o6⟩, o7⟩ := hok'
  have C := Lib.hid (scrCommanded c.cmd hc.cmd)
  rw [o1] at C
  have hckl : c.cmd.key.length ≤ 64 := by simp only [Cm.ok, Bool.and_eq_true, decide_eq_true_eq] at o1; exact o1.1.1
  have CW := Lib.hid fun B b l w h => commandW B b l c.cmd w h hc.cmd hckl
  have HL : Hid (addws (addws (addws (addws wCall ([c.edge, c.beg, c.fin].map Lib.itoa)) c.cmd.words) ([c.rep.ses, c.rep.seq, c.rep.e, c.rep.lease].map udec)) ([c.rep.amount, c.rep.til].map Lib.itoa) = c.line) := Lib.hid (by
    rw [← addws_append, ← addws_append, ← addws_append, addws_tail (by decide)]
    simp [Cl.line, Cl.head, Cl.rest, Rp.words, hlk])
  have hx2 : (addws (addws wCall ([c.edge, c.beg, c.fin].map Lib.itoa)) c.cmd.words).length ≤ 2000 := by
    have h1 := addws_len (k := 129) c.cmd.words (addws wCall ([c.edge, c.beg, c.fin].map Lib.itoa)) (Cm.words_len hc.cmd hckl)
    have h2 := addws_len (k := 21) ([c.edge, c.beg, c.fin].map Lib.itoa) wCall (by intro s hs; simp at hs; rcases hs with rfl | rfl | rfl <;> (have := itoa_len hc.edge.1 hc.edge.2; have := itoa_len hc.beg.1 hc.beg.2; have := itoa_len hc.fin.1 hc.fin.2; omega))
    have h4 : (wCall : List UInt8).length = 4 := rfl
    simp only [Cm.words, List.map_cons, List.map_nil, List.length_cons, List.length_nil] at h1 h2 ⊢
    omega
  have hx1 : (addws wCall ([c.edge, c.beg, c.fin].map Lib.itoa)).length ≤ 200 := by
    have h2 := addws_len (k := 21) ([c.edge, c.beg, c.fin].map Lib.itoa) wCall (by intro s hs; simp at hs; rcases hs with rfl | rfl | rfl <;> (have := itoa_len hc.edge.1 hc.edge.2; have := itoa_len hc.beg.1 hc.beg.2; have := itoa_len hc.fin.1 hc.fin.2; omega))
    have h4 : (wCall : List UInt8).length = 4 := rfl
    simp only [List.map_cons, List.map_nil, List.length_cons, List.length_nil] at h2 ⊢
    omega
  have hx3 : (addws (addws (addws wCall ([c.edge, c.beg, c.fin].map Lib.itoa)) c.cmd.words) ([c.rep.ses, c.rep.seq, c.rep.e, c.rep.lease].map udec)).length ≤ 2200 := by
    have h1 := addws_len (k := 21) ([c.rep.ses, c.rep.seq, c.rep.e, c.rep.lease].map udec) (addws (addws wCall ([c.edge, c.beg, c.fin].map Lib.itoa)) c.cmd.words) (by intro s hs; simp at hs; rcases hs with rfl | rfl | rfl | rfl <;> (have := udec_len hc.rep.ses.2; have := udec_len hc.rep.seq.2; have := udec_len (n := c.rep.e) (by omega); have := udec_len hc.rep.lease.2; omega))
    simp only [List.map_cons, List.map_nil, List.length_cons, List.length_nil] at h1 hx2 ⊢
    omega
  have hwc := wrap_code o2 o3
  obtain ⟨⟨g1, g2⟩, _, _, ⟨g3, g4⟩, ⟨g5, g6⟩, ⟨⟨g7, g8⟩, ⟨g9, g10⟩, _, ⟨g11, g12⟩, ⟨g13, g14⟩, g15, g16⟩, _, _⟩ := hc
  have HYES := Lib.hid (fun l (hl : l = c.line) w' hb => callE_yes (w := w) (w' := w') (l := l) HOK.out hl hb)
  obtain ⟨ln, hln⟩ : ∃ ln, ln = c.line := ⟨_, rfl⟩
  have HLN := Lib.hid hln
  rw [← hln] at HNE HL
  clear hok hln o1 hckl
  obtain ⟨edge, look, lazy, ⟨ses, seq, op, ckey, amount, span, lease⟩, key, beg, fin, ⟨rses, rseq, re, rlease, ramount, rtil⟩, cap, lent⟩ := c
  simp only at *
  subst hlk o4 o5 o6 o7
  generalize e1 : addws wCall ([edge, beg, fin].map Lib.itoa) = l1 at *
  generalize e2 : addws l1 (Cm.words ⟨ses, seq, op, ckey, amount, span, lease⟩) = l2 at *
  generalize e3 : addws l2 ([rses, rseq, re, rlease].map udec) = l3 at *
  have E1 := Lib.hid e1
  have E2 := Lib.hid e2
  have E3 := Lib.hid e3
  clear e1 e2 e3
  unfold Cl.cells Cm.cells Rp.cells at *
  simp only [List.cons_append, List.nil_append] at *
  have hb1 : Below w.heap.size w (w.alloc (.cells #[.int .i64 edge, .bool false, .bool false, .int .u64 ses, .int .u64 seq, .int .i64 op, .string ⟨ckey.toArray⟩, .int .i64 amount, .int .i64 span, .int .u64 lease, .string ⟨#[]⟩, .int .i64 beg, .int .i64 fin, .int .u64 rses, .int .u64 rseq, .int .i64 re, .int .u64 rlease, .int .i64 ramount, .int .i64 rtil, .int .i64 0, .int .i64 0] 48)) := (Below.refl _ _).alloc (Nat.le_refl _) _
  have hz1 : (w.alloc (.cells #[.int .i64 edge, .bool false, .bool false, .int .u64 ses, .int .u64 seq, .int .i64 op, .string ⟨ckey.toArray⟩, .int .i64 amount, .int .i64 span, .int .u64 lease, .string ⟨#[]⟩, .int .i64 beg, .int .i64 fin, .int .u64 rses, .int .u64 rseq, .int .i64 re, .int .u64 rlease, .int .i64 ramount, .int .i64 rtil, .int .i64 0, .int .i64 0] 48)).heap.size = w.heap.size + 1 := by simp
  have hk1 : Blk (w.alloc (.cells #[.int .i64 edge, .bool false, .bool false, .int .u64 ses, .int .u64 seq, .int .i64 op, .string ⟨ckey.toArray⟩, .int .i64 amount, .int .i64 span, .int .u64 lease, .string ⟨#[]⟩, .int .i64 beg, .int .i64 fin, .int .u64 rses, .int .u64 rseq, .int .i64 re, .int .u64 rlease, .int .i64 ramount, .int .i64 rtil, .int .i64 0, .int .i64 0] 48)) w.heap.size 48 #[.int .i64 edge, .bool false, .bool false, .int .u64 ses, .int .u64 seq, .int .i64 op, .string ⟨ckey.toArray⟩, .int .i64 amount, .int .i64 span, .int .u64 lease, .string ⟨#[]⟩, .int .i64 beg, .int .i64 fin, .int .u64 rses, .int .u64 rseq, .int .i64 re, .int .u64 rlease, .int .i64 ramount, .int .i64 rtil, .int .i64 0, .int .i64 0] := Blk.new w _ _
  have hb2 : Below (w.heap.size + 1) (w.alloc (.cells #[.int .i64 edge, .bool false, .bool false, .int .u64 ses, .int .u64 seq, .int .i64 op, .string ⟨ckey.toArray⟩, .int .i64 amount, .int .i64 span, .int .u64 lease, .string ⟨#[]⟩, .int .i64 beg, .int .i64 fin, .int .u64 rses, .int .u64 rseq, .int .i64 re, .int .u64 rlease, .int .i64 ramount, .int .i64 rtil, .int .i64 0, .int .i64 0] 48)) ((w.alloc (.cells #[.int .i64 edge, .bool false, .bool false, .int .u64 ses, .int .u64 seq, .int .i64 op, .string ⟨ckey.toArray⟩, .int .i64 amount, .int .i64 span, .int .u64 lease, .string ⟨#[]⟩, .int .i64 beg, .int .i64 fin, .int .u64 rses, .int .u64 rseq, .int .i64 re, .int .u64 rlease, .int .i64 ramount, .int .i64 rtil, .int .i64 0, .int .i64 0] 48)).alloc (.cells #[.pointer none, .slice none 0 0] Tw)) := (Below.refl _ _).alloc (by simp) _
  have hz2 : ((w.alloc (.cells #[.int .i64 edge, .bool false, .bool false, .int .u64 ses, .int .u64 seq, .int .i64 op, .string ⟨ckey.toArray⟩, .int .i64 amount, .int .i64 span, .int .u64 lease, .string ⟨#[]⟩, .int .i64 beg, .int .i64 fin, .int .u64 rses, .int .u64 rseq, .int .i64 re, .int .u64 rlease, .int .i64 ramount, .int .i64 rtil, .int .i64 0, .int .i64 0] 48)).alloc (.cells #[.pointer none, .slice none 0 0] Tw)).heap.size = w.heap.size + 1 + 1 := by simp
  have hk2 : Blk ((w.alloc (.cells #[.int .i64 edge, .bool false, .bool false, .int .u64 ses, .int .u64 seq, .int .i64 op, .string ⟨ckey.toArray⟩, .int .i64 amount, .int .i64 span, .int .u64 lease, .string ⟨#[]⟩, .int .i64 beg, .int .i64 fin, .int .u64 rses, .int .u64 rseq, .int .i64 re, .int .u64 rlease, .int .i64 ramount, .int .i64 rtil, .int .i64 0, .int .i64 0] 48)).alloc (.cells #[.pointer none, .slice none 0 0] Tw)) w.heap.size 48 #[.int .i64 edge, .bool false, .bool false, .int .u64 ses, .int .u64 seq, .int .i64 op, .string ⟨ckey.toArray⟩, .int .i64 amount, .int .i64 span, .int .u64 lease, .string ⟨#[]⟩, .int .i64 beg, .int .i64 fin, .int .u64 rses, .int .u64 rseq, .int .i64 re, .int .u64 rlease, .int .i64 ramount, .int .i64 rtil, .int .i64 0, .int .i64 0] := hk1.below hb2 (by omega)
  have hw2 : WB ((w.alloc (.cells #[.int .i64 edge, .bool false, .bool false, .int .u64 ses, .int .u64 seq, .int .i64 op, .string ⟨ckey.toArray⟩, .int .i64 amount, .int .i64 span, .int .u64 lease, .string ⟨#[]⟩, .int .i64 beg, .int .i64 fin, .int .u64 rses, .int .u64 rseq, .int .i64 re, .int .u64 rlease, .int .i64 ramount, .int .i64 rtil, .int .i64 0, .int .i64 0] 48)).alloc (.cells #[.pointer none, .slice none 0 0] Tw)) Tw (w.heap.size + 1) (w.heap.size + 1) [] := by
    have := WB.new (w.alloc (.cells #[.int .i64 edge, .bool false, .bool false, .int .u64 ses, .int .u64 seq, .int .i64 op, .string ⟨ckey.toArray⟩, .int .i64 amount, .int .i64 span, .int .u64 lease, .string ⟨#[]⟩, .int .i64 beg, .int .i64 fin, .int .u64 rses, .int .u64 rseq, .int .i64 re, .int .u64 rlease, .int .i64 ramount, .int .i64 rtil, .int .i64 0, .int .i64 0] 48)) Tw (B := w.heap.size + 1) (by simp)
    rwa [hz1] at this
  obtain ⟨hb3, hr3⟩ := laid_row ((w.alloc (.cells #[.int .i64 edge, .bool false, .bool false, .int .u64 ses, .int .u64 seq, .int .i64 op, .string ⟨ckey.toArray⟩, .int .i64 amount, .int .i64 span, .int .u64 lease, .string ⟨#[]⟩, .int .i64 beg, .int .i64 fin, .int .u64 rses, .int .u64 rseq, .int .i64 re, .int .u64 rlease, .int .i64 ramount, .int .i64 rtil, .int .i64 0, .int .i64 0] 48)).alloc (.cells #[.pointer none, .slice none 0 0] Tw)) #[.int .u64 0, .int .u64 0, .int .i64 0, .int .u64 0, .int .i64 0, .int .i64 0] #[.int .u64 rses, .int .u64 rseq, .int .i64 re, .int .u64 rlease, .int .i64 ramount, .int .i64 rtil] 46
  rw [hz2] at hb3 hr3
  have HN : Hid (Blk (((w.alloc (.cells #[.int .i64 edge, .bool false, .bool false, .int .u64 ses, .int .u64 seq, .int .i64 op, .string ⟨ckey.toArray⟩, .int .i64 amount, .int .i64 span, .int .u64 lease, .string ⟨#[]⟩, .int .i64 beg, .int .i64 fin, .int .u64 rses, .int .u64 rseq, .int .i64 re, .int .u64 rlease, .int .i64 ramount, .int .i64 rtil, .int .i64 0, .int .i64 0] 48)).alloc (.cells #[.pointer none, .slice none 0 0] Tw)).alloc (.cells #[.int .u64 0, .int .u64 0, .int .i64 0, .int .u64 0, .int .i64 0, .int .i64 0] 46)) (w.heap.size + 1 + 1) 46 #[.int .u64 0, .int .u64 0, .int .i64 0, .int .u64 0, .int .i64 0, .int .i64 0]) := Lib.hid (by
    have := Blk.new ((w.alloc (.cells #[.int .i64 edge, .bool false, .bool false, .int .u64 ses, .int .u64 seq, .int .i64 op, .string ⟨ckey.toArray⟩, .int .i64 amount, .int .i64 span, .int .u64 lease, .string ⟨#[]⟩, .int .i64 beg, .int .i64 fin, .int .u64 rses, .int .u64 rseq, .int .i64 re, .int .u64 rlease, .int .i64 ramount, .int .i64 rtil, .int .i64 0, .int .i64 0] 48)).alloc (.cells #[.pointer none, .slice none 0 0] Tw)) #[.int .u64 0, .int .u64 0, .int .i64 0, .int .u64 0, .int .i64 0, .int .i64 0] 46
    rwa [hz2] at this)
  have HK3 := Lib.hid (hk2.below hb3 (by omega))
  have HW3 := Lib.hid (hw2.below (by rw [hz2]; exact hb3))
  have HR3 := Lib.hid hr3
  have HB3 := Lib.hid ((hb1.trans (hb2.mono (by omega))).trans (hb3.mono (by omega)))
  have HE3 : Hid (Env (w.heap.size + 1) ((((w.alloc (.cells #[.int .i64 edge, .bool false, .bool false, .int .u64 ses, .int .u64 seq, .int .i64 op, .string ⟨ckey.toArray⟩, .int .i64 amount, .int .i64 span, .int .u64 lease, .string ⟨#[]⟩, .int .i64 beg, .int .i64 fin, .int .u64 rses, .int .u64 rseq, .int .i64 re, .int .u64 rlease, .int .i64 ramount, .int .i64 rtil, .int .i64 0, .int .i64 0] 48)).alloc (.cells #[.pointer none, .slice none 0 0] Tw)).alloc (.cells #[.int .u64 0, .int .u64 0, .int .i64 0, .int .u64 0, .int .i64 0, .int .i64 0] 46)).setRow (w.heap.size + 1 + 1) #[.int .u64 rses, .int .u64 rseq, .int .i64 re, .int .u64 rlease, .int .i64 ramount, .int .i64 rtil])) := Lib.hid ((hE.below HB3.out).up (by omega))
  have hsz := HR3.out.lt
  clear hb1 hz1 hk1 hb2 hz2 hk2 hw2 hb3 hr3 hE
  have hgb : w.heap.size ≠ w.heap.size + 1 := by omega
  have hgr : w.heap.size + 1 + 1 ≠ w.heap.size + 1 := by omega
  have he0 : ¬ re < 0 := by omega
  have he1 : ¬ 20 < re := by omega
  go_enter Tryd.func16, Tryd.ntmps16
  go_wp2_with ((refine wpList_store_row rfl 46 (.tmp 5) (.tmp 9) rfl (w.heap.size + 1 + 1) #[.int .u64 rses, .int .u64 rseq, .int .i64 re, .int .u64 rlease, .int .i64 ramount, .int .i64 rtil] rfl rfl _ _ HN.out rep_size rfl (by simp [Value.oneCell']) ?_; clear HN; generalize ((((w.alloc (.cells #[.int .i64 edge, .bool false, .bool false, .int .u64 ses, .int .u64 seq, .int .i64 op, .string ⟨ckey.toArray⟩, .int .i64 amount, .int .i64 span, .int .u64 lease, .string ⟨#[]⟩, .int .i64 beg, .int .i64 fin, .int .u64 rses, .int .u64 rseq, .int .i64 re, .int .u64 rlease, .int .i64 ramount, .int .i64 rtil, .int .i64 0, .int .i64 0] 48)).alloc (.cells #[.pointer none, .slice none 0 0] Tw)).alloc (.cells #[.int .u64 0, .int .u64 0, .int .i64 0, .int .u64 0, .int .i64 0, .int .i64 0] 46)).setRow (w.heap.size + 1 + 1) #[.int .u64 rses, .int .u64 rseq, .int .i64 re, .int .u64 rlease, .int .i64 ramount, .int .i64 rtil]) = w3 at *; have c0 := HK3.out.cell 0 rfl; have c1 := HK3.out.cell 1 rfl; have c2 := HK3.out.cell 2 rfl; have c3 := HK3.out.cell 3 rfl; have c4 := HK3.out.cell 4 rfl; have c5 := HK3.out.cell 5 rfl; have c6 := HK3.out.cell 6 rfl; have c7 := HK3.out.cell 7 rfl; have c8 := HK3.out.cell 8 rfl; have c9 := HK3.out.cell 9 rfl; have c10 := HK3.out.cell 10 rfl; have c11 := HK3.out.cell 11 rfl; have c12 := HK3.out.cell 12 rfl; have c13 := HK3.out.cell 13 rfl; have c14 := HK3.out.cell 14 rfl; have c15 := HK3.out.cell 15 rfl; have c16 := HK3.out.cell 16 rfl; have c17 := HK3.out.cell 17 rfl; have c18 := HK3.out.cell 18 rfl; have c19 := HK3.out.cell 19 rfl; have c20 := HK3.out.cell 20 rfl; have r0 := HR3.out.cell 0 rfl; have r1 := HR3.out.cell 1 rfl; have r2 := HR3.out.cell 2 rfl; have r3 := HR3.out.cell 3 rfl; have r4 := HR3.out.cell 4 rfl; have r5 := HR3.out.cell 5 rfl); repeat (first | go_values | go_skip | go_guarded | go_step))
  go_wp2_with (go_at_call 27; refine (C.out _).mono ?_)
  rintro e x4 ⟨rfl, hb4⟩
  have HB4 := Lib.hid (HB3.out.trans (hb4.mono (by omega)))
  have HK4 := Lib.hid (HK3.out.kept hb4)
  have HR4 := Lib.hid (HR3.out.kept hb4)
  have HW4 := Lib.hid (HW3.out.below hb4)
  have HE4 := Lib.hid (HE3.out.below (hb4.mono (by omega)))
  have zz := hb4.size
  clear hb4 HB3 HK3 HR3 HW3 HE3 C c0 c1 c2 c3 c4 c5 c6 c7 c8 c9 c10 c11 c12 c13 c14 c15 c16 c17 c18 c19 c20 r0 r1 r2 r3 r4 r5
  have c0 := HK4.out.cell 0 rfl; have c1 := HK4.out.cell 1 rfl; have c2 := HK4.out.cell 2 rfl; have c3 := HK4.out.cell 3 rfl; have c4 := HK4.out.cell 4 rfl; have c5 := HK4.out.cell 5 rfl; have c6 := HK4.out.cell 6 rfl; have c7 := HK4.out.cell 7 rfl; have c8 := HK4.out.cell 8 rfl; have c9 := HK4.out.cell 9 rfl; have c10 := HK4.out.cell 10 rfl; have c11 := HK4.out.cell 11 rfl; have c12 := HK4.out.cell 12 rfl; have c13 := HK4.out.cell 13 rfl; have c14 := HK4.out.cell 14 rfl; have c15 := HK4.out.cell 15 rfl; have c16 := HK4.out.cell 16 rfl; have c17 := HK4.out.cell 17 rfl; have c18 := HK4.out.cell 18 rfl; have c19 := HK4.out.cell 19 rfl; have c20 := HK4.out.cell 20 rfl
  have r0 := HR4.out.cell 0 rfl; have r1 := HR4.out.cell 1 rfl; have r2 := HR4.out.cell 2 rfl; have r3 := HR4.out.cell 3 rfl; have r4 := HR4.out.cell 4 rfl; have r5 := HR4.out.cell 5 rfl
  go_wp2_with (go_at_call 28; refine (wordW (w.heap.size + 1) (w.heap.size + 1) [] wCall _ HW4.out (by decide) (by omega)).mono ?_)
  rintro e w4 ⟨rfl, q4, k4⟩
  rw [addw_nil] at q4
  have hb4 := HK4.out.kp k4 (by decide) hgb
  have hr4 := HR4.out.kp k4 (by decide) hgr
  have hE4 := HE4.out.kp k4
  have hB4 := HB4.out.trans (k4.below.mono (by omega))
  have z4 := k4.size
  clear HK4 HE4 HB4 HR4 HW4 k4 he0 he1 c0 c1 c2 c3 c4 c5 c6 c7 c8 c9 c10 c11 c12 c13 c14 c15 c16 c17 c18 c19 c20 r0 r1 r2 r3 r4 r5
  have c0 := hb4.cell 0 rfl
  have c11 := hb4.cell 11 rfl
  have c12 := hb4.cell 12 rfl
  go_wp2_with (go_at_call 29; refine (intsW (w.heap.size + 1) (w.heap.size + 1) wCall w4.heap.size 3 [edge, beg, fin] _ (q4.alloc _) ?a3 ?a4 (by simp) (by decide) (hE4.alloc (by omega) _) (by simp; omega)).mono ?_)
  case a3 => exact Blk.of_alloc w4 [Value.int .i64 edge, Value.int .i64 beg, Value.int .i64 fin] 2
  case a4 => intro z hz; simp at hz; rcases hz with rfl | rfl | rfl <;> omega
  rintro e w5 ⟨rfl, q5, k5⟩
  rw [E1.out] at q5
  have hb5 := (hb4.kept ((Below.refl _ _).alloc (Nat.le_refl _) _)).kp k5 (by decide) hgb
  have hr5 := (hr4.kept ((Below.refl _ _).alloc (Nat.le_refl _) _)).kp k5 (by decide) hgr
  have hE5 := (hE4.alloc (by omega) _).kp k5
  have hB5 := (hB4.alloc (by omega) _).trans (k5.below.mono (by omega))
  have z5 : w4.heap.size + 1 ≤ w5.heap.size := by have := k5.size; simpa using this
  clear hb4 hr4 q4 hE4 hB4 k5 c0 c11 c12
  have c1 := hb5.cell 1 rfl
  have c3 := hb5.cell 3 rfl
  have c4 := hb5.cell 4 rfl
  have c5 := hb5.cell 5 rfl
  have c6 := hb5.cell 6 rfl
  have c7 := hb5.cell 7 rfl
  have c8 := hb5.cell 8 rfl
  have c9 := hb5.cell 9 rfl
  go_wp2_with (go_at_call 31; refine (CW.out (w.heap.size + 1) (w.heap.size + 1) l1 _ q5 (by omega) hE5 (by omega)).mono ?_)
  rintro e w6 ⟨rfl, q6, k6⟩
  rw [E2.out] at q6
  have hr6 := hr5.kp k6 (by decide) hgr
  have hE6 := hE5.kp k6
  have hB6 := hB5.trans (k6.below.mono (by omega))
  have z6 := k6.size
  clear hb5 hr5 q5 hE5 hB5 k6 c1 c3 c4 c5 c6 c7 c8 c9
  have r0 := hr6.cell 0 rfl
  have r1 := hr6.cell 1 rfl
  have r2 := hr6.cell 2 rfl
  have r3 := hr6.cell 3 rfl
  go_wp2_with (go_at_call 30; refine (numsW (w.heap.size + 1) (w.heap.size + 1) l2 w6.heap.size 4 [rses, rseq, re, rlease] _ (q6.alloc _) ?a5 ?a6 (by simp) (by omega) (hE6.alloc (by omega) _) (by simp; omega)).mono ?_)
  case a5 => exact Blk.of_alloc w6 [Value.int .u64 rses, Value.int .u64 rseq, Value.int .u64 re, Value.int .u64 rlease] 31
  case a6 => intro z hz; simp at hz; rcases hz with rfl | rfl | rfl | rfl <;> omega
  rintro e w7 ⟨rfl, q7, k7⟩
  rw [E3.out] at q7
  have hr7 := (hr6.kept ((Below.refl _ _).alloc (Nat.le_refl _) _)).kp k7 (by decide) hgr
  have hE7 := (hE6.alloc (by omega) _).kp k7
  have hB7 := (hB6.alloc (by omega) _).trans (k7.below.mono (by omega))
  have z7 : w6.heap.size + 1 ≤ w7.heap.size := by have := k7.size; simpa using this
  clear hr6 q6 hE6 hB6 k7 r0 r1 r2 r3
  have r4 := hr7.cell 4 rfl
  have r5 := hr7.cell 5 rfl
  go_wp2_with (go_at_call 29; refine (intsW (w.heap.size + 1) (w.heap.size + 1) l3 w7.heap.size 2 [ramount, rtil] _ (q7.alloc _) ?a7 ?a8 (by simp) (by omega) (hE7.alloc (by omega) _) (by simp; omega)).mono ?_)
  case a7 => exact Blk.of_alloc w7 [Value.int .i64 ramount, Value.int .i64 rtil] 2
  case a8 => intro z hz; simp at hz; rcases hz with rfl | rfl <;> omega
  rintro e w8 ⟨rfl, q8, k8⟩
  rw [HL.out] at q8
  have hB8 := (hB7.alloc (by omega) _).trans (k8.below.mono (by omega))
  have z8 : w7.heap.size + 1 ≤ w8.heap.size := by have := k8.size; simpa using this
  clear hr7 q7 hE7 hB7 k8 r4 r5
  go_wp2_with (go_at_call 25; refine (stringW Tw (w.heap.size + 1) (w.heap.size + 1) _ _ q8 HNE.out).mono ?_)
  rintro e w9 ⟨rfl, hb9⟩
  go_wp2_with fail
  go_ret2
  exact HYES.out _ HLN.out _ (hB8.trans (hb9.mono (by omega)))

theorem scrCall (c : Cl) (hc : c.wf) (w : World) (hE : Env w.heap.size w) : Calls Tryd.prog 16 #[.agg c.cells.toArray] w (CallE c w) := by
  cases hk : c.look with
  | true =>
    cases ho : c.ok with
    | false => exact scrCallNoLook c hc hk ho w hE
    | true =>
      cases hz : c.lazy with
      | false => exact scrCallLook c hc hk hz ho w hE
      | true => exact scrCallLazy c hc hk hz ho w hE
  | false =>
    cases ho : c.ok with
    | false => exact scrCallNoCall c hc hk ho w hE
    | true => exact scrCallCall c hc hk ho w hE
end Go.Proofs.YtcinohmhhglpjaaDoor
