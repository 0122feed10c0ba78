/- Walk of ScriptCalls (printed by gen_wscrc.py). -/
import Derived.Test.YtcinohmhhglpjaaDoorScrTC
import Derived.Test.YtcinohmhhglpjaaDoorScrRc
import Derived.Test.YtcinohmhhglpjaaDoorWScrA
import Derived.Test.YtcinohmhhglpjaaDoorEnvR
namespace Go.Proofs.YtcinohmhhglpjaaDoor
open Go.RowKit

theorem wp_bin_of {P : Program} {o : Oper} {a : Act} {w : World} {K : Act → World → Prop} {Q : Exit → Act → World → Prop} (b : BinOp) (t u : TypeId) (x y : Operand) (ho : o.op = .binOp b t x y u) (v : Value) (hg : (eqGuard b t x y (a.eval x) (a.eval y)).run P w = .ok () w)
    (hv : (binOp b t (a.eval x) (a.eval y)).run P w = .ok v w) (h : K (a.put o.dst v) w) : o.wp P a w K Q := by
  unfold Oper.wp execOp
  simp only [ho, Sem.run_bind, hg, hv, Result.andThen_ok]
  exact h
theorem cl_eq (c : Cl) (w : World) : (Op.equalIn 10000 48 (.agg c.cells.toArray) (.agg c.cells.toArray)).run Tryd.prog w = .ok true w := by
  have u1 := Tryd.underlying3
  have a1 := Tryd.isAgg3
  have z1 := Tryd.sizeOf3
  have u2 := Tryd.underlying2
  have a2 := Tryd.isAgg2
  have z2 := Tryd.sizeOf2
  have u3 := Tryd.underlying31
  have a3 := Tryd.isAgg31
  have z3 := Tryd.sizeOf31
  have u4 := Tryd.underlying9
  have a4 := Tryd.isAgg9
  have z4 := Tryd.sizeOf9
  have u5 := Tryd.underlying4
  have a5 := Tryd.isAgg4
  have z5 := Tryd.sizeOf4
  have hS := Tryd.underlying48
  have hC := cmd_eq c.cmd c.cmd
  have hR := rep_eq c.rep c.rep
  rw [show (10000 : Nat) = 9999 + 1 from rfl]
  unfold Op.equalIn
  simp only [Sem.run_bind, run_underlying hS, Result.andThen_ok]
  unfold Cl.cells
  unfold Cm.cells Rp.cells at *
  go_simp
theorem cl_guard (b : BinOp) (hb : b = .eql ∨ b = .neq) (x y : Operand) (cs ds : Array Value) (w : World) : (eqGuard b 48 x y (.agg cs) (.agg ds)).run Tryd.prog w = .ok () w := by
  have hE : Tryd.prog.eqGuardType Tryd.prog.depth 48 = false := by kernel_rfl
  have h : ∀ b : BinOp, (b matches .eql | .neq) = true → (eqGuard b 48 x y (.agg cs) (.agg ds)).run Tryd.prog w = .ok () w := by
    intro b hb
    unfold eqGuard
    simp [hb, hE, go_sem]
  rcases hb with rfl | rfl
  · exact h _ rfl
  · exact h _ rfl
theorem cl_bin (cs ds : Array Value) (r : Bool) (w : World) (h : (Op.equalIn 10000 48 (.agg cs) (.agg ds)).run Tryd.prog w = .ok r w) :
    (binOp .eql 48 (.agg cs) (.agg ds)).run Tryd.prog w = .ok (.bool r) w ∧ (binOp .neq 48 (.agg cs) (.agg ds)).run Tryd.prog w = .ok (.bool (!r)) w := by
  constructor
  · simp only [binOp]; simp [Op.equal, Op.maxDepth, h]
  · simp only [binOp]; simp [Op.equal, Op.maxDepth, h]
theorem Cl.line_len {c : Cl} (hc : c.wf) (h : c.ok = true) : c.line.length ≤ 2600 := by
  have hh : c.head.length ≤ 4 := by
    unfold Cl.head
    split
    · split <;> decide
    · decide
  obtain ⟨q1, q2, q3, q4, q5, q6, q7, q8⟩ := hc
  obtain ⟨edge, look, lazy, cmd, key, beg, fin, rep, cap, lent⟩ := c
  unfold Cl.line
  rw [List.length_append]
  have i1 := itoa_len q1.1 q1.2
  have i2 := itoa_len q4.1 q4.2
  have i3 := itoa_len q5.1 q5.2
  simp only at i1 i2 i3
  cases look with
  | true =>
    simp only [Cl.ok, if_true, Bool.and_eq_true, decide_eq_true_eq] at h
    have i4 := itoa_len q7.1 q7.2
    have i5 := itoa_len q8.1 q8.2
    have i6 := hexs_len key
    simp only at i4 i5
    have h2 := tailw_len (Cl.rest ⟨edge, true, lazy, cmd, key, beg, fin, rep, cap, lent⟩) 129 (by
      intro s hs
      unfold Cl.rest at hs
      simp only [if_true, List.cons_append, List.nil_append, List.mem_cons, List.not_mem_nil, or_false] at hs
      rcases hs with rfl | rfl | rfl | rfl | rfl | rfl
      · omega
      · omega
      · omega
      · rw [List.length_cons]; omega
      · omega
      · omega)
    have h3 : (Cl.rest ⟨edge, true, lazy, cmd, key, beg, fin, rep, cap, lent⟩).length = 6 := rfl
    rw [h3] at h2
    omega
  | false =>
    simp only [Cl.ok, Bool.false_eq_true, if_false, Bool.and_eq_true, decide_eq_true_eq, Bool.not_eq_true'] at h
    have hk : cmd.key.length ≤ 64 := by
      have := h.1.1.1.1.1.1
      simp only [Cm.ok, Bool.and_eq_true, decide_eq_true_eq] at this
      omega
    have hw := Cm.words_len q2 hk
    obtain ⟨r1, r2, r3, r4, r5, r6⟩ := q6
    have j1 := udec_len r1.2
    have j2 := udec_len r2.2
    have j3 := udec_len (n := rep.e) (by have := r3.2; simp only at this; omega)
    have j4 := udec_len r4.2
    have j5 := itoa_len r5.1 r5.2
    have j6 := itoa_len r6.1 r6.2
    simp only at j1 j2 j3 j4 j5 j6
    have h2 := tailw_len (Cl.rest ⟨edge, false, lazy, cmd, key, beg, fin, rep, cap, lent⟩) 129 (by
      intro s hs
      unfold Cl.rest at hs
      simp only [Bool.false_eq_true, if_false] at hs
      rcases List.mem_append.1 hs with hs | hs
      · simp only [List.mem_cons, List.not_mem_nil, or_false] at hs
        rcases hs with rfl | rfl | rfl <;> omega
      · rcases List.mem_append.1 hs with hs | hs
        · exact hw s hs
        · simp only [Rp.words, List.mem_cons, List.not_mem_nil, or_false] at hs
          rcases hs with rfl | rfl | rfl | rfl | rfl | rfl <;> omega)
    have h3 : (Cl.rest ⟨edge, false, lazy, cmd, key, beg, fin, rep, cap, lent⟩).length = 16 := rfl
    rw [h3] at h2
    omega
theorem readCall_wf {l : List UInt8} {c : Cl} (h : readCall l = some c) : c.wf := by
  unfold readCall at h
  split at h
  · rename_i x hx
    split at h
    · injection h with h
      subst h
      unfold whole at hx
      split at hx
      · rename_i y hy; injection hx with hx; subst hx; exact rdCall_wf hy
      · cases hx
    · cases h
  · cases h

set_option maxRecDepth 20000 in
set_option maxHeartbeats 4000000 in
theorem callsFN (c : Cl) (hc : c.wf) (s : List UInt8) (hs : s.length < 4294967281) (hok : c.ok = false) (hr : readCall s = none) (w : World) (hE : EnvR w.heap.size w) : Calls Tryd.prog 6 #[.agg c.cells.toArray, .string ⟨s.toArray⟩] w (Yes w) := by
  have HR := Lib.hid hr
  have HOK := Lib.hid hok
  obtain ⟨cs, hcs⟩ : ∃ cs, cs = c.cells.toArray := ⟨_, rfl⟩
  have CA := Lib.hid (fun W hW => scrCall c hc W hW)
  have CR := Lib.hid (fun W => refCall c hc W)
  have CT := Lib.hid (fun (W : World) (hW : EnvR W.heap.size W) => scrToCall s W hs hW)
  have HEQ := Lib.hid (cl_eq c)
  rw [← hcs] at CA CR HEQ ⊢
  have hz : cs.size = 21 := by rw [hcs]; exact c.cells_size
  have h1c : cs.all (·.oneCell') = true := by rw [hcs]; exact c.cells_one
  have hsz : (Tryd.prog.info? 48).map (·.size) = some cs.size := by rw [hz]; exact call_size
  clear hcs
  have HEZ := Lib.hid (cl_eq Cl.zero)
  rw [Cl.zero_cells] at HEZ
  unfold ToCallE at CT
  rw [hr] at CT
  simp only [Option.getD_none, Option.isSome_none, Bool.false_eq_true, if_false] at CT
  rw [Cl.zero_cells] at CT
  unfold CallE at CA
  unfold RefCallE at CR
  rw [hok] at CA CR
  simp only [Bool.false_eq_true, if_false] at CA CR
  have hb0 : Below w.heap.size w (w.alloc (.cells cs 48)) := (Below.refl _ _).alloc (Nat.le_refl _) _
  have HB0 := Lib.hid hb0
  have HX0 := Lib.hid (Blk.new w cs 48)
  have HE0 := Lib.hid ((hE.below hb0).up hb0.size)
  have HE := Lib.hid hE
  clear hE hb0 hok hr
  go_enter Tryd.func6, Tryd.ntmps6
  go_wp2_with (first
    | (refine wpList_load_row rfl 48 (.tmp 2) rfl w.heap.size rfl 48 cs (0, 0) _ HX0.out Tryd.underlying48 rfl hsz ?_)
    | (go_at_call 16; refine (CA.out _ HE0.out.env).mono ?_))
  rintro e x1 ⟨rfl, b1⟩
  have HB1 := Lib.hid (HB0.out.trans (b1.mono HB0.out.size))
  have HX1 := Lib.hid (HX0.out.kept b1)
  clear b1 HB0 HX0 HE0 CA
  go_wp2_with (first
    | (refine wpList_load_row rfl 48 (.tmp 2) rfl w.heap.size rfl 48 cs (0, 0) _ HX1.out Tryd.underlying48 rfl hsz ?_)
    | (go_at_call 17; refine (CR.out _).mono ?_))
  rintro e x2 ⟨rfl, b2⟩
  have HB2 := Lib.hid (HB1.out.trans (b2.mono HB1.out.size))
  have HX2 := Lib.hid (HX1.out.kept b2)
  have HE2 := Lib.hid ((HE.out.below HB2.out).up HB2.out.size)
  clear b2 HB1 HX1 CR
  go_wp2_with (go_at_call 18; refine (CT.out _ HE2.out).mono ?_)
  rintro e x3 ⟨rfl, b3⟩
  have HB3 := Lib.hid (HB2.out.trans (b3.mono HB2.out.size))
  have HX3 := Lib.hid (HX2.out.kept b3)
  have hlt3 := HX3.out.lt
  have HN3 := Lib.hid (Blk.new x3 #[.int .i64 0, .bool false, .bool false, .int .u64 0, .int .u64 0, .int .i64 0, .string ⟨#[]⟩, .int .i64 0, .int .i64 0, .int .u64 0, .string ⟨#[]⟩, .int .i64 0, .int .i64 0, .int .u64 0, .int .u64 0, .int .i64 0, .int .u64 0, .int .i64 0, .int .i64 0, .int .i64 0, .int .i64 0] 48)
  obtain ⟨hb4, hx4⟩ := row_in w x3 #[.int .i64 0, .bool false, .bool false, .int .u64 0, .int .u64 0, .int .i64 0, .string ⟨#[]⟩, .int .i64 0, .int .i64 0, .int .u64 0, .string ⟨#[]⟩, .int .i64 0, .int .i64 0, .int .u64 0, .int .u64 0, .int .i64 0, .int .u64 0, .int .i64 0, .int .i64 0, .int .i64 0, .int .i64 0] #[.int .i64 0, .bool false, .bool false, .int .u64 0, .int .u64 0, .int .i64 0, .string ⟨#[]⟩, .int .i64 0, .int .i64 0, .int .u64 0, .string ⟨#[]⟩, .int .i64 0, .int .i64 0, .int .u64 0, .int .u64 0, .int .i64 0, .int .u64 0, .int .i64 0, .int .i64 0, .int .i64 0, .int .i64 0] 48 HB3.out
  have HX4 : Hid (Blk ((x3.alloc (.cells #[.int .i64 0, .bool false, .bool false, .int .u64 0, .int .u64 0, .int .i64 0, .string ⟨#[]⟩, .int .i64 0, .int .i64 0, .int .u64 0, .string ⟨#[]⟩, .int .i64 0, .int .i64 0, .int .u64 0, .int .u64 0, .int .i64 0, .int .u64 0, .int .i64 0, .int .i64 0, .int .i64 0, .int .i64 0] 48)).setRow x3.heap.size #[.int .i64 0, .bool false, .bool false, .int .u64 0, .int .u64 0, .int .i64 0, .string ⟨#[]⟩, .int .i64 0, .int .i64 0, .int .u64 0, .string ⟨#[]⟩, .int .i64 0, .int .i64 0, .int .u64 0, .int .u64 0, .int .i64 0, .int .u64 0, .int .i64 0, .int .i64 0, .int .i64 0, .int .i64 0]) w.heap.size 48 cs) := Lib.hid ((HX3.out.kept ((Below.refl _ _).alloc (Nat.le_refl _) _)).setRow_other (k := x3.heap.size) #[.int .i64 0, .bool false, .bool false, .int .u64 0, .int .u64 0, .int .i64 0, .string ⟨#[]⟩, .int .i64 0, .int .i64 0, .int .u64 0, .string ⟨#[]⟩, .int .i64 0, .int .i64 0, .int .u64 0, .int .u64 0, .int .i64 0, .int .u64 0, .int .i64 0, .int .i64 0, .int .i64 0, .int .i64 0] (by omega))
  have HB4 := Lib.hid hb4
  have HD4 := Lib.hid hx4
  have HE4 := Lib.hid ((HE.out.below hb4).up hb4.size)
  obtain ⟨G, hG⟩ : ∃ G, G = x3.heap.size := ⟨_, rfl⟩
  clear b3 hb4 hx4 HB2 HX2 HE2 HB3 HX3 CT
  go_wp2_with (first
    | (refine wpList_store_row rfl 48 (.tmp 9) (.tmp 28) rfl x3.heap.size #[.int .i64 0, .bool false, .bool false, .int .u64 0, .int .u64 0, .int .i64 0, .string ⟨#[]⟩, .int .i64 0, .int .i64 0, .int .u64 0, .string ⟨#[]⟩, .int .i64 0, .int .i64 0, .int .u64 0, .int .u64 0, .int .i64 0, .int .u64 0, .int .i64 0, .int .i64 0, .int .i64 0, .int .i64 0] rfl rfl _ _ HN3.out call_size rfl (by simp [Value.oneCell']) ?_; clear HN3; generalize (x3.alloc (.cells #[.int .i64 0, .bool false, .bool false, .int .u64 0, .int .u64 0, .int .i64 0, .string ⟨#[]⟩, .int .i64 0, .int .i64 0, .int .u64 0, .string ⟨#[]⟩, .int .i64 0, .int .i64 0, .int .u64 0, .int .u64 0, .int .i64 0, .int .u64 0, .int .i64 0, .int .i64 0, .int .i64 0, .int .i64 0] 48)).setRow x3.heap.size #[.int .i64 0, .bool false, .bool false, .int .u64 0, .int .u64 0, .int .i64 0, .string ⟨#[]⟩, .int .i64 0, .int .i64 0, .int .u64 0, .string ⟨#[]⟩, .int .i64 0, .int .i64 0, .int .u64 0, .int .u64 0, .int .i64 0, .int .u64 0, .int .i64 0, .int .i64 0, .int .i64 0, .int .i64 0] = x4 at *; simp only [← hG] at *)
    | (go_at_call 11; refine (scrAnswers _ HE4.out.env).mono ?_))
  first | rintro e x5 ⟨rfl, b5⟩ | rintro e x5 rfl b5
  have HB5 := Lib.hid (HB4.out.trans (b5.mono HB4.out.size))
  have HX5 := Lib.hid (HX4.out.kept b5)
  have HD5 := Lib.hid (HD4.out.kept b5)
  have HE5 := Lib.hid ((HE.out.below HB5.out).up HB5.out.size)
  clear b5 HB4 HX4 HD4 HE4 hlt3 hG
  have heqz := HEZ.out x5
  go_wp2_with (first
    | (go_guarded; refine wp_load_row 48 (.tmp 9) rfl G rfl 48 #[.int .i64 0, .bool false, .bool false, .int .u64 0, .int .u64 0, .int .i64 0, .string ⟨#[]⟩, .int .i64 0, .int .i64 0, .int .u64 0, .string ⟨#[]⟩, .int .i64 0, .int .i64 0, .int .u64 0, .int .u64 0, .int .i64 0, .int .u64 0, .int .i64 0, .int .i64 0, .int .i64 0, .int .i64 0] (0, 0) _ HD5.out Tryd.underlying48 rfl call_size ?_; simp only [Act.put, List.setIfInBounds_toArray, List.set_cons_zero, List.set_cons_succ])
    | (go_guarded; refine wp_bin_of .eql 48 48 (.tmp 69) (.tmp 70) rfl (.bool true) (cl_guard _ (.inl rfl) _ _ _ _ _) (cl_bin _ _ _ _ heqz).1 ?_; simp only [Act.put, List.setIfInBounds_toArray, List.set_cons_zero, List.set_cons_succ]))
  go_ret
  exact ⟨rfl, HB5.out⟩

set_option maxRecDepth 20000 in
set_option maxHeartbeats 4000000 in
theorem callsFS (c : Cl) (hc : c.wf) (s : List UInt8) (hs : s.length < 4294967281) (hok : c.ok = false) (d : Cl) (hr : readCall s = some d) (w : World) (hE : EnvR w.heap.size w) : Calls Tryd.prog 6 #[.agg c.cells.toArray, .string ⟨s.toArray⟩] w (Yes w) := by
  have HR := Lib.hid hr
  have HOK := Lib.hid hok
  obtain ⟨cs, hcs⟩ : ∃ cs, cs = c.cells.toArray := ⟨_, rfl⟩
  have CA := Lib.hid (fun W hW => scrCall c hc W hW)
  have CR := Lib.hid (fun W => refCall c hc W)
  have CT := Lib.hid (fun (W : World) (hW : EnvR W.heap.size W) => scrToCall s W hs hW)
  have HEQ := Lib.hid (cl_eq c)
  rw [← hcs] at CA CR HEQ ⊢
  have hz : cs.size = 21 := by rw [hcs]; exact c.cells_size
  have h1c : cs.all (·.oneCell') = true := by rw [hcs]; exact c.cells_one
  have hsz : (Tryd.prog.info? 48).map (·.size) = some cs.size := by rw [hz]; exact call_size
  clear hcs
  obtain ⟨hdo, hdl⟩ := readCall_some hr
  have CD := Lib.hid (fun W => refCall d (readCall_wf hr) W)
  unfold RefCallE at CD
  rw [hdo] at CD
  simp only [if_true] at CD
  rw [hdl] at CD
  unfold ToCallE at CT
  rw [hr] at CT
  simp only [Option.getD_some, Option.isSome_some, if_true] at CT
  obtain ⟨ds, hds⟩ : ∃ ds, ds = d.cells.toArray := ⟨_, rfl⟩
  have hzd : ds.size = 21 := by rw [hds]; exact d.cells_size
  have h1d : ds.all (·.oneCell') = true := by rw [hds]; exact d.cells_one
  have hszd : (Tryd.prog.info? 48).map (·.size) = some ds.size := by rw [hzd]; exact call_size
  rw [← hds] at CT CD
  clear hds hdo hdl
  unfold CallE at CA
  unfold RefCallE at CR
  rw [hok] at CA CR
  simp only [Bool.false_eq_true, if_false] at CA CR
  have hb0 : Below w.heap.size w (w.alloc (.cells cs 48)) := (Below.refl _ _).alloc (Nat.le_refl _) _
  have HB0 := Lib.hid hb0
  have HX0 := Lib.hid (Blk.new w cs 48)
  have HE0 := Lib.hid ((hE.below hb0).up hb0.size)
  have HE := Lib.hid hE
  clear hE hb0 hok hr
  go_enter Tryd.func6, Tryd.ntmps6
  go_wp2_with (first
    | (refine wpList_load_row rfl 48 (.tmp 2) rfl w.heap.size rfl 48 cs (0, 0) _ HX0.out Tryd.underlying48 rfl hsz ?_)
    | (go_at_call 16; refine (CA.out _ HE0.out.env).mono ?_))
  rintro e x1 ⟨rfl, b1⟩
  have HB1 := Lib.hid (HB0.out.trans (b1.mono HB0.out.size))
  have HX1 := Lib.hid (HX0.out.kept b1)
  clear b1 HB0 HX0 HE0 CA
  go_wp2_with (first
    | (refine wpList_load_row rfl 48 (.tmp 2) rfl w.heap.size rfl 48 cs (0, 0) _ HX1.out Tryd.underlying48 rfl hsz ?_)
    | (go_at_call 17; refine (CR.out _).mono ?_))
  rintro e x2 ⟨rfl, b2⟩
  have HB2 := Lib.hid (HB1.out.trans (b2.mono HB1.out.size))
  have HX2 := Lib.hid (HX1.out.kept b2)
  have HE2 := Lib.hid ((HE.out.below HB2.out).up HB2.out.size)
  clear b2 HB1 HX1 CR
  go_wp2_with (go_at_call 18; refine (CT.out _ HE2.out).mono ?_)
  rintro e x3 ⟨rfl, b3⟩
  have HB3 := Lib.hid (HB2.out.trans (b3.mono HB2.out.size))
  have HX3 := Lib.hid (HX2.out.kept b3)
  have hlt3 := HX3.out.lt
  have HN3 := Lib.hid (Blk.new x3 #[.int .i64 0, .bool false, .bool false, .int .u64 0, .int .u64 0, .int .i64 0, .string ⟨#[]⟩, .int .i64 0, .int .i64 0, .int .u64 0, .string ⟨#[]⟩, .int .i64 0, .int .i64 0, .int .u64 0, .int .u64 0, .int .i64 0, .int .u64 0, .int .i64 0, .int .i64 0, .int .i64 0, .int .i64 0] 48)
  obtain ⟨hb4, hx4⟩ := row_in w x3 #[.int .i64 0, .bool false, .bool false, .int .u64 0, .int .u64 0, .int .i64 0, .string ⟨#[]⟩, .int .i64 0, .int .i64 0, .int .u64 0, .string ⟨#[]⟩, .int .i64 0, .int .i64 0, .int .u64 0, .int .u64 0, .int .i64 0, .int .u64 0, .int .i64 0, .int .i64 0, .int .i64 0, .int .i64 0] ds 48 HB3.out
  have HX4 : Hid (Blk ((x3.alloc (.cells #[.int .i64 0, .bool false, .bool false, .int .u64 0, .int .u64 0, .int .i64 0, .string ⟨#[]⟩, .int .i64 0, .int .i64 0, .int .u64 0, .string ⟨#[]⟩, .int .i64 0, .int .i64 0, .int .u64 0, .int .u64 0, .int .i64 0, .int .u64 0, .int .i64 0, .int .i64 0, .int .i64 0, .int .i64 0] 48)).setRow x3.heap.size ds) w.heap.size 48 cs) := Lib.hid ((HX3.out.kept ((Below.refl _ _).alloc (Nat.le_refl _) _)).setRow_other (k := x3.heap.size) ds (by omega))
  have HB4 := Lib.hid hb4
  have HD4 := Lib.hid hx4
  have HE4 := Lib.hid ((HE.out.below hb4).up hb4.size)
  obtain ⟨G, hG⟩ : ∃ G, G = x3.heap.size := ⟨_, rfl⟩
  clear b3 hb4 hx4 HB2 HX2 HE2 HB3 HX3 CT
  go_wp2_with (first
    | (refine wpList_store_row rfl 48 (.tmp 9) (.tmp 28) rfl x3.heap.size ds rfl rfl _ _ HN3.out hszd (by simp [hzd]) h1d ?_; clear HN3; generalize (x3.alloc (.cells #[.int .i64 0, .bool false, .bool false, .int .u64 0, .int .u64 0, .int .i64 0, .string ⟨#[]⟩, .int .i64 0, .int .i64 0, .int .u64 0, .string ⟨#[]⟩, .int .i64 0, .int .i64 0, .int .u64 0, .int .u64 0, .int .i64 0, .int .u64 0, .int .i64 0, .int .i64 0, .int .i64 0, .int .i64 0] 48)).setRow x3.heap.size ds = x4 at *; simp only [← hG] at *)
    | (go_at_call 11; refine (scrAnswers _ HE4.out.env).mono ?_))
  first | rintro e x5 ⟨rfl, b5⟩ | rintro e x5 rfl b5
  have HB5 := Lib.hid (HB4.out.trans (b5.mono HB4.out.size))
  have HX5 := Lib.hid (HX4.out.kept b5)
  have HD5 := Lib.hid (HD4.out.kept b5)
  have HE5 := Lib.hid ((HE.out.below HB5.out).up HB5.out.size)
  clear b5 HB4 HX4 HD4 HE4 hlt3 hG
  go_wp2_with (first
    | (refine wpList_load_row rfl 48 (.tmp 9) rfl G rfl 48 ds (0, 0) _ HD5.out Tryd.underlying48 rfl hszd ?_)
    | (go_at_call 17; refine (CD.out _).mono ?_))
  rintro e x8 ⟨rfl, b8⟩
  have HB8 := Lib.hid (HB5.out.trans (b8.mono HB5.out.size))
  go_wp2_with fail
  go_ret
  exact ⟨rfl, HB8.out⟩

set_option maxRecDepth 20000 in
set_option maxHeartbeats 4000000 in
theorem callsTN (c : Cl) (hc : c.wf) (s : List UInt8) (hs : s.length < 4294967281) (hok : c.ok = true) (hr : readCall s = none) (w : World) (hE : EnvR w.heap.size w) : Calls Tryd.prog 6 #[.agg c.cells.toArray, .string ⟨s.toArray⟩] w (Yes w) := by
  have HR := Lib.hid hr
  have HOK := Lib.hid hok
  obtain ⟨cs, hcs⟩ : ∃ cs, cs = c.cells.toArray := ⟨_, rfl⟩
  have CA := Lib.hid (fun W hW => scrCall c hc W hW)
  have CR := Lib.hid (fun W => refCall c hc W)
  have CT := Lib.hid (fun (W : World) (hW : EnvR W.heap.size W) => scrToCall s W hs hW)
  have HEQ := Lib.hid (cl_eq c)
  have CT2 := Lib.hid (fun (W : World) (hW : EnvR W.heap.size W) => scrToCall c.line W (by have := Cl.line_len hc hok; omega) hW)
  unfold ToCallE at CT2
  rw [readCall_line hc hok] at CT2
  simp only [Option.getD_some, Option.isSome_some, if_true] at CT2
  rw [← hcs] at CT2
  rw [← hcs] at CA CR HEQ ⊢
  have hz : cs.size = 21 := by rw [hcs]; exact c.cells_size
  have h1c : cs.all (·.oneCell') = true := by rw [hcs]; exact c.cells_one
  have hsz : (Tryd.prog.info? 48).map (·.size) = some cs.size := by rw [hz]; exact call_size
  clear hcs
  have HEZ := Lib.hid (cl_eq Cl.zero)
  rw [Cl.zero_cells] at HEZ
  unfold ToCallE at CT
  rw [hr] at CT
  simp only [Option.getD_none, Option.isSome_none, Bool.false_eq_true, if_false] at CT
  rw [Cl.zero_cells] at CT
  unfold CallE at CA
  unfold RefCallE at CR
  rw [hok] at CA CR
  simp only [if_true] at CA CR
  generalize c.line = ln at *
  have hb0 : Below w.heap.size w (w.alloc (.cells cs 48)) := (Below.refl _ _).alloc (Nat.le_refl _) _
  have HB0 := Lib.hid hb0
  have HX0 := Lib.hid (Blk.new w cs 48)
  have HE0 := Lib.hid ((hE.below hb0).up hb0.size)
  have HE := Lib.hid hE
  clear hE hb0 hok hr
  go_enter Tryd.func6, Tryd.ntmps6
  go_wp2_with (first
    | (refine wpList_load_row rfl 48 (.tmp 2) rfl w.heap.size rfl 48 cs (0, 0) _ HX0.out Tryd.underlying48 rfl hsz ?_)
    | (go_at_call 16; refine (CA.out _ HE0.out.env).mono ?_))
  rintro e x1 ⟨rfl, b1⟩
  have HB1 := Lib.hid (HB0.out.trans (b1.mono HB0.out.size))
  have HX1 := Lib.hid (HX0.out.kept b1)
  clear b1 HB0 HX0 HE0 CA
  go_wp2_with (first
    | (refine wpList_load_row rfl 48 (.tmp 2) rfl w.heap.size rfl 48 cs (0, 0) _ HX1.out Tryd.underlying48 rfl hsz ?_)
    | (go_at_call 17; refine (CR.out _).mono ?_))
  rintro e x2 ⟨rfl, b2⟩
  have HB2 := Lib.hid (HB1.out.trans (b2.mono HB1.out.size))
  have HX2 := Lib.hid (HX1.out.kept b2)
  have HE2 := Lib.hid ((HE.out.below HB2.out).up HB2.out.size)
  clear b2 HB1 HX1 CR
  go_wp2_with (go_at_call 18; refine (CT.out _ HE2.out).mono ?_)
  rintro e x3 ⟨rfl, b3⟩
  have HB3 := Lib.hid (HB2.out.trans (b3.mono HB2.out.size))
  have HX3 := Lib.hid (HX2.out.kept b3)
  have hlt3 := HX3.out.lt
  have HN3 := Lib.hid (Blk.new x3 #[.int .i64 0, .bool false, .bool false, .int .u64 0, .int .u64 0, .int .i64 0, .string ⟨#[]⟩, .int .i64 0, .int .i64 0, .int .u64 0, .string ⟨#[]⟩, .int .i64 0, .int .i64 0, .int .u64 0, .int .u64 0, .int .i64 0, .int .u64 0, .int .i64 0, .int .i64 0, .int .i64 0, .int .i64 0] 48)
  obtain ⟨hb4, hx4⟩ := row_in w x3 #[.int .i64 0, .bool false, .bool false, .int .u64 0, .int .u64 0, .int .i64 0, .string ⟨#[]⟩, .int .i64 0, .int .i64 0, .int .u64 0, .string ⟨#[]⟩, .int .i64 0, .int .i64 0, .int .u64 0, .int .u64 0, .int .i64 0, .int .u64 0, .int .i64 0, .int .i64 0, .int .i64 0, .int .i64 0] #[.int .i64 0, .bool false, .bool false, .int .u64 0, .int .u64 0, .int .i64 0, .string ⟨#[]⟩, .int .i64 0, .int .i64 0, .int .u64 0, .string ⟨#[]⟩, .int .i64 0, .int .i64 0, .int .u64 0, .int .u64 0, .int .i64 0, .int .u64 0, .int .i64 0, .int .i64 0, .int .i64 0, .int .i64 0] 48 HB3.out
  have HX4 : Hid (Blk ((x3.alloc (.cells #[.int .i64 0, .bool false, .bool false, .int .u64 0, .int .u64 0, .int .i64 0, .string ⟨#[]⟩, .int .i64 0, .int .i64 0, .int .u64 0, .string ⟨#[]⟩, .int .i64 0, .int .i64 0, .int .u64 0, .int .u64 0, .int .i64 0, .int .u64 0, .int .i64 0, .int .i64 0, .int .i64 0, .int .i64 0] 48)).setRow x3.heap.size #[.int .i64 0, .bool false, .bool false, .int .u64 0, .int .u64 0, .int .i64 0, .string ⟨#[]⟩, .int .i64 0, .int .i64 0, .int .u64 0, .string ⟨#[]⟩, .int .i64 0, .int .i64 0, .int .u64 0, .int .u64 0, .int .i64 0, .int .u64 0, .int .i64 0, .int .i64 0, .int .i64 0, .int .i64 0]) w.heap.size 48 cs) := Lib.hid ((HX3.out.kept ((Below.refl _ _).alloc (Nat.le_refl _) _)).setRow_other (k := x3.heap.size) #[.int .i64 0, .bool false, .bool false, .int .u64 0, .int .u64 0, .int .i64 0, .string ⟨#[]⟩, .int .i64 0, .int .i64 0, .int .u64 0, .string ⟨#[]⟩, .int .i64 0, .int .i64 0, .int .u64 0, .int .u64 0, .int .i64 0, .int .u64 0, .int .i64 0, .int .i64 0, .int .i64 0, .int .i64 0] (by omega))
  have HB4 := Lib.hid hb4
  have HD4 := Lib.hid hx4
  have HE4 := Lib.hid ((HE.out.below hb4).up hb4.size)
  obtain ⟨G, hG⟩ : ∃ G, G = x3.heap.size := ⟨_, rfl⟩
  clear b3 hb4 hx4 HB2 HX2 HE2 HB3 HX3 CT
  go_wp2_with (first
    | (refine wpList_store_row rfl 48 (.tmp 9) (.tmp 28) rfl x3.heap.size #[.int .i64 0, .bool false, .bool false, .int .u64 0, .int .u64 0, .int .i64 0, .string ⟨#[]⟩, .int .i64 0, .int .i64 0, .int .u64 0, .string ⟨#[]⟩, .int .i64 0, .int .i64 0, .int .u64 0, .int .u64 0, .int .i64 0, .int .u64 0, .int .i64 0, .int .i64 0, .int .i64 0, .int .i64 0] rfl rfl _ _ HN3.out call_size rfl (by simp [Value.oneCell']) ?_; clear HN3; generalize (x3.alloc (.cells #[.int .i64 0, .bool false, .bool false, .int .u64 0, .int .u64 0, .int .i64 0, .string ⟨#[]⟩, .int .i64 0, .int .i64 0, .int .u64 0, .string ⟨#[]⟩, .int .i64 0, .int .i64 0, .int .u64 0, .int .u64 0, .int .i64 0, .int .u64 0, .int .i64 0, .int .i64 0, .int .i64 0, .int .i64 0] 48)).setRow x3.heap.size #[.int .i64 0, .bool false, .bool false, .int .u64 0, .int .u64 0, .int .i64 0, .string ⟨#[]⟩, .int .i64 0, .int .i64 0, .int .u64 0, .string ⟨#[]⟩, .int .i64 0, .int .i64 0, .int .u64 0, .int .u64 0, .int .i64 0, .int .u64 0, .int .i64 0, .int .i64 0, .int .i64 0, .int .i64 0] = x4 at *; simp only [← hG] at *)
    | (go_at_call 11; refine (scrAnswers _ HE4.out.env).mono ?_))
  first | rintro e x5 ⟨rfl, b5⟩ | rintro e x5 rfl b5
  have HB5 := Lib.hid (HB4.out.trans (b5.mono HB4.out.size))
  have HX5 := Lib.hid (HX4.out.kept b5)
  have HD5 := Lib.hid (HD4.out.kept b5)
  have HE5 := Lib.hid ((HE.out.below HB5.out).up HB5.out.size)
  clear b5 HB4 HX4 HD4 HE4 hlt3 hG
  go_wp2_with (go_at_call 18; refine (CT2.out _ HE5.out).mono ?_)
  rintro e x6 ⟨rfl, b6⟩
  have HB6 := Lib.hid (HB5.out.trans (b6.mono HB5.out.size))
  have HX6 := Lib.hid (HX5.out.kept b6)
  have HD6 := Lib.hid (HD5.out.kept b6)
  have hlt6 := HX6.out.lt
  have hlt7 := HD6.out.lt
  have HN6 := Lib.hid (Blk.new x6 #[.int .i64 0, .bool false, .bool false, .int .u64 0, .int .u64 0, .int .i64 0, .string ⟨#[]⟩, .int .i64 0, .int .i64 0, .int .u64 0, .string ⟨#[]⟩, .int .i64 0, .int .i64 0, .int .u64 0, .int .u64 0, .int .i64 0, .int .u64 0, .int .i64 0, .int .i64 0, .int .i64 0, .int .i64 0] 48)
  obtain ⟨hb7, hx7⟩ := row_in w x6 #[.int .i64 0, .bool false, .bool false, .int .u64 0, .int .u64 0, .int .i64 0, .string ⟨#[]⟩, .int .i64 0, .int .i64 0, .int .u64 0, .string ⟨#[]⟩, .int .i64 0, .int .i64 0, .int .u64 0, .int .u64 0, .int .i64 0, .int .u64 0, .int .i64 0, .int .i64 0, .int .i64 0, .int .i64 0] cs 48 HB6.out
  have HX7 : Hid (Blk ((x6.alloc (.cells #[.int .i64 0, .bool false, .bool false, .int .u64 0, .int .u64 0, .int .i64 0, .string ⟨#[]⟩, .int .i64 0, .int .i64 0, .int .u64 0, .string ⟨#[]⟩, .int .i64 0, .int .i64 0, .int .u64 0, .int .u64 0, .int .i64 0, .int .u64 0, .int .i64 0, .int .i64 0, .int .i64 0, .int .i64 0] 48)).setRow x6.heap.size cs) w.heap.size 48 cs) := Lib.hid ((HX6.out.kept ((Below.refl _ _).alloc (Nat.le_refl _) _)).setRow_other (k := x6.heap.size) cs (by omega))
  have HD7 : Hid (Blk ((x6.alloc (.cells #[.int .i64 0, .bool false, .bool false, .int .u64 0, .int .u64 0, .int .i64 0, .string ⟨#[]⟩, .int .i64 0, .int .i64 0, .int .u64 0, .string ⟨#[]⟩, .int .i64 0, .int .i64 0, .int .u64 0, .int .u64 0, .int .i64 0, .int .u64 0, .int .i64 0, .int .i64 0, .int .i64 0, .int .i64 0] 48)).setRow x6.heap.size cs) G 48 #[.int .i64 0, .bool false, .bool false, .int .u64 0, .int .u64 0, .int .i64 0, .string ⟨#[]⟩, .int .i64 0, .int .i64 0, .int .u64 0, .string ⟨#[]⟩, .int .i64 0, .int .i64 0, .int .u64 0, .int .u64 0, .int .i64 0, .int .u64 0, .int .i64 0, .int .i64 0, .int .i64 0, .int .i64 0]) := Lib.hid ((HD6.out.kept ((Below.refl _ _).alloc (Nat.le_refl _) _)).setRow_other (k := x6.heap.size) cs (by omega))
  have HB7 := Lib.hid hb7
  have HC7 := Lib.hid hx7
  have heq := HEQ.out ((x6.alloc (.cells #[.int .i64 0, .bool false, .bool false, .int .u64 0, .int .u64 0, .int .i64 0, .string ⟨#[]⟩, .int .i64 0, .int .i64 0, .int .u64 0, .string ⟨#[]⟩, .int .i64 0, .int .i64 0, .int .u64 0, .int .u64 0, .int .i64 0, .int .u64 0, .int .i64 0, .int .i64 0, .int .i64 0, .int .i64 0] 48)).setRow x6.heap.size cs)
  obtain ⟨G6, hG6⟩ : ∃ G6, G6 = x6.heap.size := ⟨_, rfl⟩
  clear b6 hb7 hx7 HB5 HX5 HD5 HE5 HB6 HX6 HD6 CT2 hlt6 hlt7
  have heqz := HEZ.out ((x6.alloc (.cells #[.int .i64 0, .bool false, .bool false, .int .u64 0, .int .u64 0, .int .i64 0, .string ⟨#[]⟩, .int .i64 0, .int .i64 0, .int .u64 0, .string ⟨#[]⟩, .int .i64 0, .int .i64 0, .int .u64 0, .int .u64 0, .int .i64 0, .int .u64 0, .int .i64 0, .int .i64 0, .int .i64 0, .int .i64 0] 48)).setRow x6.heap.size cs)
  go_wp2_with (first
    | (refine wpList_store_row rfl 48 (.tmp 11) (.tmp 55) rfl x6.heap.size cs rfl rfl _ _ HN6.out hsz (by simp [hz]) h1c ?_; clear HN6; generalize (x6.alloc (.cells #[.int .i64 0, .bool false, .bool false, .int .u64 0, .int .u64 0, .int .i64 0, .string ⟨#[]⟩, .int .i64 0, .int .i64 0, .int .u64 0, .string ⟨#[]⟩, .int .i64 0, .int .i64 0, .int .u64 0, .int .u64 0, .int .i64 0, .int .u64 0, .int .i64 0, .int .i64 0, .int .i64 0, .int .i64 0] 48)).setRow x6.heap.size cs = x7 at *; simp only [← hG6] at *)
    | (go_guarded; refine wp_load_row 48 (.tmp 11) rfl G6 rfl 48 cs (0, 0) _ HC7.out Tryd.underlying48 rfl hsz ?_; simp only [Act.put, List.setIfInBounds_toArray, List.set_cons_zero, List.set_cons_succ])
    | (go_guarded; refine wp_load_row 48 (.tmp 2) rfl w.heap.size rfl 48 cs (0, 0) _ HX7.out Tryd.underlying48 rfl hsz ?_; simp only [Act.put, List.setIfInBounds_toArray, List.set_cons_zero, List.set_cons_succ])
    | (go_guarded; refine wp_bin_of .neq 48 48 (.tmp 60) (.tmp 61) rfl (.bool false) (cl_guard _ (.inr rfl) _ _ _ _ _) (cl_bin _ _ _ _ heq).2 ?_; simp only [Act.put, List.setIfInBounds_toArray, List.set_cons_zero, List.set_cons_succ])
    | (go_guarded; refine wp_load_row 48 (.tmp 9) rfl G rfl 48 #[.int .i64 0, .bool false, .bool false, .int .u64 0, .int .u64 0, .int .i64 0, .string ⟨#[]⟩, .int .i64 0, .int .i64 0, .int .u64 0, .string ⟨#[]⟩, .int .i64 0, .int .i64 0, .int .u64 0, .int .u64 0, .int .i64 0, .int .u64 0, .int .i64 0, .int .i64 0, .int .i64 0, .int .i64 0] (0, 0) _ HD7.out Tryd.underlying48 rfl call_size ?_; simp only [Act.put, List.setIfInBounds_toArray, List.set_cons_zero, List.set_cons_succ])
    | (go_guarded; refine wp_bin_of .eql 48 48 (.tmp 69) (.tmp 70) rfl (.bool true) (cl_guard _ (.inl rfl) _ _ _ _ _) (cl_bin _ _ _ _ heqz).1 ?_; simp only [Act.put, List.setIfInBounds_toArray, List.set_cons_zero, List.set_cons_succ]))
  go_ret
  exact ⟨rfl, HB7.out⟩

set_option maxRecDepth 20000 in
set_option maxHeartbeats 4000000 in
theorem callsTS (c : Cl) (hc : c.wf) (s : List UInt8) (hs : s.length < 4294967281) (hok : c.ok = true) (d : Cl) (hr : readCall s = some d) (w : World) (hE : EnvR w.heap.size w) : Calls Tryd.prog 6 #[.agg c.cells.toArray, .string ⟨s.toArray⟩] w (Yes w) := by
  have HR := Lib.hid hr
  have HOK := Lib.hid hok
  obtain ⟨cs, hcs⟩ : ∃ cs, cs = c.cells.toArray := ⟨_, rfl⟩
  have CA := Lib.hid (fun W hW => scrCall c hc W hW)
  have CR := Lib.hid (fun W => refCall c hc W)
  have CT := Lib.hid (fun (W : World) (hW : EnvR W.heap.size W) => scrToCall s W hs hW)
  have HEQ := Lib.hid (cl_eq c)
  have CT2 := Lib.hid (fun (W : World) (hW : EnvR W.heap.size W) => scrToCall c.line W (by have := Cl.line_len hc hok; omega) hW)
  unfold ToCallE at CT2
  rw [readCall_line hc hok] at CT2
  simp only [Option.getD_some, Option.isSome_some, if_true] at CT2
  rw [← hcs] at CT2
  rw [← hcs] at CA CR HEQ ⊢
  have hz : cs.size = 21 := by rw [hcs]; exact c.cells_size
  have h1c : cs.all (·.oneCell') = true := by rw [hcs]; exact c.cells_one
  have hsz : (Tryd.prog.info? 48).map (·.size) = some cs.size := by rw [hz]; exact call_size
  clear hcs
  obtain ⟨hdo, hdl⟩ := readCall_some hr
  have CD := Lib.hid (fun W => refCall d (readCall_wf hr) W)
  unfold RefCallE at CD
  rw [hdo] at CD
  simp only [if_true] at CD
  rw [hdl] at CD
  unfold ToCallE at CT
  rw [hr] at CT
  simp only [Option.getD_some, Option.isSome_some, if_true] at CT
  obtain ⟨ds, hds⟩ : ∃ ds, ds = d.cells.toArray := ⟨_, rfl⟩
  have hzd : ds.size = 21 := by rw [hds]; exact d.cells_size
  have h1d : ds.all (·.oneCell') = true := by rw [hds]; exact d.cells_one
  have hszd : (Tryd.prog.info? 48).map (·.size) = some ds.size := by rw [hzd]; exact call_size
  rw [← hds] at CT CD
  clear hds hdo hdl
  unfold CallE at CA
  unfold RefCallE at CR
  rw [hok] at CA CR
  simp only [if_true] at CA CR
  generalize c.line = ln at *
  have hb0 : Below w.heap.size w (w.alloc (.cells cs 48)) := (Below.refl _ _).alloc (Nat.le_refl _) _
  have HB0 := Lib.hid hb0
  have HX0 := Lib.hid (Blk.new w cs 48)
  have HE0 := Lib.hid ((hE.below hb0).up hb0.size)
  have HE := Lib.hid hE
  clear hE hb0 hok hr
  go_enter Tryd.func6, Tryd.ntmps6
  go_wp2_with (first
    | (refine wpList_load_row rfl 48 (.tmp 2) rfl w.heap.size rfl 48 cs (0, 0) _ HX0.out Tryd.underlying48 rfl hsz ?_)
    | (go_at_call 16; refine (CA.out _ HE0.out.env).mono ?_))
  rintro e x1 ⟨rfl, b1⟩
  have HB1 := Lib.hid (HB0.out.trans (b1.mono HB0.out.size))
  have HX1 := Lib.hid (HX0.out.kept b1)
  clear b1 HB0 HX0 HE0 CA
  go_wp2_with (first
    | (refine wpList_load_row rfl 48 (.tmp 2) rfl w.heap.size rfl 48 cs (0, 0) _ HX1.out Tryd.underlying48 rfl hsz ?_)
    | (go_at_call 17; refine (CR.out _).mono ?_))
  rintro e x2 ⟨rfl, b2⟩
  have HB2 := Lib.hid (HB1.out.trans (b2.mono HB1.out.size))
  have HX2 := Lib.hid (HX1.out.kept b2)
  have HE2 := Lib.hid ((HE.out.below HB2.out).up HB2.out.size)
  clear b2 HB1 HX1 CR
  go_wp2_with (go_at_call 18; refine (CT.out _ HE2.out).mono ?_)
  rintro e x3 ⟨rfl, b3⟩
  have HB3 := Lib.hid (HB2.out.trans (b3.mono HB2.out.size))
  have HX3 := Lib.hid (HX2.out.kept b3)
  have hlt3 := HX3.out.lt
  have HN3 := Lib.hid (Blk.new x3 #[.int .i64 0, .bool false, .bool false, .int .u64 0, .int .u64 0, .int .i64 0, .string ⟨#[]⟩, .int .i64 0, .int .i64 0, .int .u64 0, .string ⟨#[]⟩, .int .i64 0, .int .i64 0, .int .u64 0, .int .u64 0, .int .i64 0, .int .u64 0, .int .i64 0, .int .i64 0, .int .i64 0, .int .i64 0] 48)
  obtain ⟨hb4, hx4⟩ := row_in w x3 #[.int .i64 0, .bool false, .bool false, .int .u64 0, .int .u64 0, .int .i64 0, .string ⟨#[]⟩, .int .i64 0, .int .i64 0, .int .u64 0, .string ⟨#[]⟩, .int .i64 0, .int .i64 0, .int .u64 0, .int .u64 0, .int .i64 0, .int .u64 0, .int .i64 0, .int .i64 0, .int .i64 0, .int .i64 0] ds 48 HB3.out
  have HX4 : Hid (Blk ((x3.alloc (.cells #[.int .i64 0, .bool false, .bool false, .int .u64 0, .int .u64 0, .int .i64 0, .string ⟨#[]⟩, .int .i64 0, .int .i64 0, .int .u64 0, .string ⟨#[]⟩, .int .i64 0, .int .i64 0, .int .u64 0, .int .u64 0, .int .i64 0, .int .u64 0, .int .i64 0, .int .i64 0, .int .i64 0, .int .i64 0] 48)).setRow x3.heap.size ds) w.heap.size 48 cs) := Lib.hid ((HX3.out.kept ((Below.refl _ _).alloc (Nat.le_refl _) _)).setRow_other (k := x3.heap.size) ds (by omega))
  have HB4 := Lib.hid hb4
  have HD4 := Lib.hid hx4
  have HE4 := Lib.hid ((HE.out.below hb4).up hb4.size)
  obtain ⟨G, hG⟩ : ∃ G, G = x3.heap.size := ⟨_, rfl⟩
  clear b3 hb4 hx4 HB2 HX2 HE2 HB3 HX3 CT
  go_wp2_with (first
    | (refine wpList_store_row rfl 48 (.tmp 9) (.tmp 28) rfl x3.heap.size ds rfl rfl _ _ HN3.out hszd (by simp [hzd]) h1d ?_; clear HN3; generalize (x3.alloc (.cells #[.int .i64 0, .bool false, .bool false, .int .u64 0, .int .u64 0, .int .i64 0, .string ⟨#[]⟩, .int .i64 0, .int .i64 0, .int .u64 0, .string ⟨#[]⟩, .int .i64 0, .int .i64 0, .int .u64 0, .int .u64 0, .int .i64 0, .int .u64 0, .int .i64 0, .int .i64 0, .int .i64 0, .int .i64 0] 48)).setRow x3.heap.size ds = x4 at *; simp only [← hG] at *)
    | (go_at_call 11; refine (scrAnswers _ HE4.out.env).mono ?_))
  first | rintro e x5 ⟨rfl, b5⟩ | rintro e x5 rfl b5
  have HB5 := Lib.hid (HB4.out.trans (b5.mono HB4.out.size))
  have HX5 := Lib.hid (HX4.out.kept b5)
  have HD5 := Lib.hid (HD4.out.kept b5)
  have HE5 := Lib.hid ((HE.out.below HB5.out).up HB5.out.size)
  clear b5 HB4 HX4 HD4 HE4 hlt3 hG
  go_wp2_with (go_at_call 18; refine (CT2.out _ HE5.out).mono ?_)
  rintro e x6 ⟨rfl, b6⟩
  have HB6 := Lib.hid (HB5.out.trans (b6.mono HB5.out.size))
  have HX6 := Lib.hid (HX5.out.kept b6)
  have HD6 := Lib.hid (HD5.out.kept b6)
  have hlt6 := HX6.out.lt
  have hlt7 := HD6.out.lt
  have HN6 := Lib.hid (Blk.new x6 #[.int .i64 0, .bool false, .bool false, .int .u64 0, .int .u64 0, .int .i64 0, .string ⟨#[]⟩, .int .i64 0, .int .i64 0, .int .u64 0, .string ⟨#[]⟩, .int .i64 0, .int .i64 0, .int .u64 0, .int .u64 0, .int .i64 0, .int .u64 0, .int .i64 0, .int .i64 0, .int .i64 0, .int .i64 0] 48)
  obtain ⟨hb7, hx7⟩ := row_in w x6 #[.int .i64 0, .bool false, .bool false, .int .u64 0, .int .u64 0, .int .i64 0, .string ⟨#[]⟩, .int .i64 0, .int .i64 0, .int .u64 0, .string ⟨#[]⟩, .int .i64 0, .int .i64 0, .int .u64 0, .int .u64 0, .int .i64 0, .int .u64 0, .int .i64 0, .int .i64 0, .int .i64 0, .int .i64 0] cs 48 HB6.out
  have HX7 : Hid (Blk ((x6.alloc (.cells #[.int .i64 0, .bool false, .bool false, .int .u64 0, .int .u64 0, .int .i64 0, .string ⟨#[]⟩, .int .i64 0, .int .i64 0, .int .u64 0, .string ⟨#[]⟩, .int .i64 0, .int .i64 0, .int .u64 0, .int .u64 0, .int .i64 0, .int .u64 0, .int .i64 0, .int .i64 0, .int .i64 0, .int .i64 0] 48)).setRow x6.heap.size cs) w.heap.size 48 cs) := Lib.hid ((HX6.out.kept ((Below.refl _ _).alloc (Nat.le_refl _) _)).setRow_other (k := x6.heap.size) cs (by omega))
  have HD7 : Hid (Blk ((x6.alloc (.cells #[.int .i64 0, .bool false, .bool false, .int .u64 0, .int .u64 0, .int .i64 0, .string ⟨#[]⟩, .int .i64 0, .int .i64 0, .int .u64 0, .string ⟨#[]⟩, .int .i64 0, .int .i64 0, .int .u64 0, .int .u64 0, .int .i64 0, .int .u64 0, .int .i64 0, .int .i64 0, .int .i64 0, .int .i64 0] 48)).setRow x6.heap.size cs) G 48 ds) := Lib.hid ((HD6.out.kept ((Below.refl _ _).alloc (Nat.le_refl _) _)).setRow_other (k := x6.heap.size) cs (by omega))
  have HB7 := Lib.hid hb7
  have HC7 := Lib.hid hx7
  have heq := HEQ.out ((x6.alloc (.cells #[.int .i64 0, .bool false, .bool false, .int .u64 0, .int .u64 0, .int .i64 0, .string ⟨#[]⟩, .int .i64 0, .int .i64 0, .int .u64 0, .string ⟨#[]⟩, .int .i64 0, .int .i64 0, .int .u64 0, .int .u64 0, .int .i64 0, .int .u64 0, .int .i64 0, .int .i64 0, .int .i64 0, .int .i64 0] 48)).setRow x6.heap.size cs)
  obtain ⟨G6, hG6⟩ : ∃ G6, G6 = x6.heap.size := ⟨_, rfl⟩
  clear b6 hb7 hx7 HB5 HX5 HD5 HE5 HB6 HX6 HD6 CT2 hlt6 hlt7
  go_wp2_with (first
    | (refine wpList_store_row rfl 48 (.tmp 11) (.tmp 55) rfl x6.heap.size cs rfl rfl _ _ HN6.out hsz (by simp [hz]) h1c ?_; clear HN6; generalize (x6.alloc (.cells #[.int .i64 0, .bool false, .bool false, .int .u64 0, .int .u64 0, .int .i64 0, .string ⟨#[]⟩, .int .i64 0, .int .i64 0, .int .u64 0, .string ⟨#[]⟩, .int .i64 0, .int .i64 0, .int .u64 0, .int .u64 0, .int .i64 0, .int .u64 0, .int .i64 0, .int .i64 0, .int .i64 0, .int .i64 0] 48)).setRow x6.heap.size cs = x7 at *; simp only [← hG6] at *)
    | (go_guarded; refine wp_load_row 48 (.tmp 11) rfl G6 rfl 48 cs (0, 0) _ HC7.out Tryd.underlying48 rfl hsz ?_; simp only [Act.put, List.setIfInBounds_toArray, List.set_cons_zero, List.set_cons_succ])
    | (go_guarded; refine wp_load_row 48 (.tmp 2) rfl w.heap.size rfl 48 cs (0, 0) _ HX7.out Tryd.underlying48 rfl hsz ?_; simp only [Act.put, List.setIfInBounds_toArray, List.set_cons_zero, List.set_cons_succ])
    | (go_guarded; refine wp_bin_of .neq 48 48 (.tmp 60) (.tmp 61) rfl (.bool false) (cl_guard _ (.inr rfl) _ _ _ _ _) (cl_bin _ _ _ _ heq).2 ?_; simp only [Act.put, List.setIfInBounds_toArray, List.set_cons_zero, List.set_cons_succ])
    | (refine wpList_load_row rfl 48 (.tmp 9) rfl G rfl 48 ds (0, 0) _ HD7.out Tryd.underlying48 rfl hszd ?_)
    | (go_at_call 17; refine (CD.out _).mono ?_))
  rintro e x8 ⟨rfl, b8⟩
  have HB8 := Lib.hid (HB7.out.trans (b8.mono HB7.out.size))
  go_wp2_with fail
  go_ret
  exact ⟨rfl, HB8.out⟩

theorem walkScriptCalls' (c : Cl) (hc : c.wf) (s : List UInt8) (hs : s.length < 4294967281) (w : World) (hE : EnvR w.heap.size w) : Calls Tryd.prog 6 #[.agg c.cells.toArray, .string ⟨s.toArray⟩] w (Yes w) := by
  cases hok : c.ok with
  | false =>
    cases hr : readCall s with
    | none => exact callsFN c hc s hs hok hr w hE
    | some d => exact callsFS c hc s hs hok d hr w hE
  | true =>
    cases hr : readCall s with
    | none => exact callsTN c hc s hs hok hr w hE
    | some d => exact callsTS c hc s hs hok d hr w hE
theorem call_of {W : World} {R : List Fv} (h : rowOk W [.int .i64, .bool, .bool, .int .u64, .int .u64, .int .i64, .str, .int .i64, .int .i64, .int .u64, .str, .int .i64, .int .i64, .int .u64, .int .u64, .int .i64, .int .u64, .int .i64, .int .i64, .int .i64, .int .i64] R) : ∃ c : Cl, R.map Fv.val = c.cells ∧ c.wf := by
  match R, h with
  | [.int _ ed, .bool lk, .bool lz, .int _ s1, .int _ s2, .int _ op, .str ky, .int _ am, .int _ sp, .int _ le, .str ck, .int _ bg, .int _ fn, .int _ r1, .int _ r2, .int _ re, .int _ rl, .int _ ra, .int _ rt, .int _ cp, .int _ ln],
      ⟨⟨rfl, h0⟩, _, _, ⟨rfl, h3⟩, ⟨rfl, h4⟩, ⟨rfl, h5⟩, h6, ⟨rfl, h7⟩, ⟨rfl, h8⟩, ⟨rfl, h9⟩, h10, ⟨rfl, h11⟩, ⟨rfl, h12⟩, ⟨rfl, h13⟩, ⟨rfl, h14⟩, ⟨rfl, h15⟩, ⟨rfl, h16⟩, ⟨rfl, h17⟩, ⟨rfl, h18⟩, ⟨rfl, h19⟩, ⟨rfl, h20⟩, _⟩ =>
    exact ⟨⟨ed, lk, lz, ⟨s1, s2, op, ky, am, sp, le⟩, ck, bg, fn, ⟨r1, r2, re, rl, ra, rt⟩, cp, ln⟩, rfl, ⟨⟨(i64_of_wf h0).1, (i64_of_wf h0).2⟩,
      ⟨(u64_of_wf h3).1, (u64_of_wf h3).2, (u64_of_wf h4).1, (u64_of_wf h4).2, (i64_of_wf h5).1, (i64_of_wf h5).2, (i64_of_wf h7).1, (i64_of_wf h7).2, (i64_of_wf h8).1, (i64_of_wf h8).2, (u64_of_wf h9).1, (u64_of_wf h9).2, Nat.le_trans h6 (by decide)⟩,
      h10, ⟨(i64_of_wf h11).1, (i64_of_wf h11).2⟩, ⟨(i64_of_wf h12).1, (i64_of_wf h12).2⟩,
      ⟨⟨(u64_of_wf h13).1, (u64_of_wf h13).2⟩, ⟨(u64_of_wf h14).1, (u64_of_wf h14).2⟩, ⟨(i64_of_wf h15).1, (i64_of_wf h15).2⟩, ⟨(u64_of_wf h16).1, (u64_of_wf h16).2⟩, ⟨(i64_of_wf h17).1, (i64_of_wf h17).2⟩, ⟨(i64_of_wf h18).1, (i64_of_wf h18).2⟩⟩,
      ⟨(i64_of_wf h19).1, (i64_of_wf h19).2⟩, ⟨(i64_of_wf h20).1, (i64_of_wf h20).2⟩⟩⟩
theorem walkScriptCalls (R : List Fv) (s : List UInt8) (w : World) (hR : rowOk w [.int .i64, .bool, .bool, .int .u64, .int .u64, .int .i64, .str, .int .i64, .int .i64, .int .u64, .str, .int .i64, .int .i64, .int .u64, .int .u64, .int .i64, .int .u64, .int .i64, .int .i64, .int .i64, .int .i64] R) (hs : s.length ≤ 1048576) (hl : laidMetH Tryd.prog Rows.scriptCallsUptoRow.laid w) (hsh : w.ShapedOpen Tryd.prog) :
    Calls Tryd.prog 6 #[.agg (R.map Fv.val).toArray, .string ⟨s.toArray⟩] w (Yes w) := by
  obtain ⟨c, e1, e2⟩ := call_of hR
  rw [e1]
  exact walkScriptCalls' c e2 s (by omega) w (envR_of hl (by kernel_rfl) hsh (by simp [Rows.scriptCallsUptoRow]) (by simp [Rows.scriptCallsUptoRow]) (by simp [Rows.scriptCallsUptoRow]) (by simp [Rows.scriptCallsUptoRow]))
end Go.Proofs.YtcinohmhhglpjaaDoor
