/- The reference's post in memory; its End, Cut, Send. -/
import Derived.Test.YtihmnkkhccihpaaPostF
import Derived.Test.YtihmnkkhccihpaaOpApp
namespace Go.Proofs.Ytihmnkkhccihpaa
open Go.RowKit

def pairCells (x : Int × Int) : List Value := [.int .i64 x.1, .int .i64 x.2]
theorem rletter_info : (Try.prog.info? 68).map (fun i => (i.zero, i.size, i.bytes)) = some (some (.agg #[.int .i64 0, .int .i64 0, .slice none 0 0]), 3, 40) := by kernel_rfl
theorem pair_info : (Try.prog.info? 70).map (fun i => (i.zero, i.size, i.bytes)) = some (some (.agg #[.int .i64 0, .int .i64 0]), 2, 16) := by kernel_rfl

/-- The reference's post in memory. -/
structure RefR (w : World) (g : Nat) (R : List Ltr) (A : Option Addr) (cap : Nat) (Cs : List (Int × Int)) (B : Option Addr) (capB : Nat) (room : Int) : Prop where
  blk : Blk w g 45 #[.int .i64 room, .slice A R.length cap, .slice B Cs.length capB]
  row : OR w 0 68 3 A cap (R.map Ltr.cells)
  data : ∀ r ∈ R, OB w 0 r.A r.c r.d ∧ r.d.length ≤ 65536
  cuts : OR w 0 70 2 B capB (Cs.map pairCells)
  fits : R.length ≤ 4096 ∧ Cs.length ≤ 4096

theorem RefR.below {w w' : World} {g : Nat} {R : List Ltr} {A : Option Addr} {cap : Nat} {Cs : List (Int × Int)} {B : Option Addr} {capB : Nat} {room : Int} (h : RefR w g R A cap Cs B capB room) (hb : Below w.heap.size w w') : RefR w' g R A cap Cs B capB room :=
  ⟨h.blk.kept hb, h.row.below hb, fun r hr => ⟨(h.data r hr).1.below hb, (h.data r hr).2⟩, h.cuts.below hb, h.fits⟩

set_option maxHeartbeats 1000000 in
theorem refEnd (n : Int) (w : World) : Calls Try.prog 10 #[.int .i64 n] w fun e w' => e = .returned (.bool (endB n)) ∧ w = w' := by
  by_cases h1 : 1 ≤ n
  · have h3 : ¬ n ≤ -1 := by omega
    by_cases h2 : n ≤ 16
    · have he : endB n = true := by simp [endB]; omega
      rw [he]
      go_enter Try.func10, Try.ntmps10
      go_wp2_with fail
      go_ret
      exact ⟨rfl, rfl⟩
    · have he : endB n = false := by simp [endB]; omega
      rw [he]
      go_enter Try.func10, Try.ntmps10
      go_wp2_with fail
      go_ret
      exact ⟨rfl, rfl⟩
  · by_cases h3 : n ≤ -1
    · by_cases h4 : -16 ≤ n
      · have he : endB n = true := by simp [endB]; omega
        rw [he]
        go_enter Try.func10, Try.ntmps10
        go_wp2_with fail
        go_ret
        exact ⟨rfl, rfl⟩
      · have he : endB n = false := by simp [endB]; omega
        rw [he]
        go_enter Try.func10, Try.ntmps10
        go_wp2_with fail
        go_ret
        exact ⟨rfl, rfl⟩
    · have he : endB n = false := by simp [endB]; omega
      rw [he]
      go_enter Try.func10, Try.ntmps10
      go_wp2_with fail
      go_ret
      exact ⟨rfl, rfl⟩

theorem pair_eq (a b c d : Int) (w : World) : (Op.equalIn 10000 70 (.agg #[.int .i64 a, .int .i64 b]) (.agg #[.int .i64 c, .int .i64 d])).run Try.prog w = .ok (decide ((a, b) = (c, d))) w := by
  have u3 := Try.underlying3
  have a3 := Try.isAgg3
  have z3 := Try.sizeOf3
  have hS := Try.underlying70
  rw [show (10000 : Nat) = 9999 + 1 from rfl]
  unfold Op.equalIn
  simp only [Sem.run_bind, run_underlying hS, Result.andThen_ok]
  go_simp
  simp only [show List.range' 0 2 = [0, 1] from rfl, List.forIn_cons, List.forIn_nil]
  go_simp
  by_cases h1 : a = c <;> by_cases h2 : b = d <;> simp [h1, h2, Prod.ext_iff]

section
variable {g : Nat} {R : List Ltr} {A : Option Addr} {cap : Nat} {Cs : List (Int × Int)} {B : Option Addr} {capB : Nat} {room : Int}

/-- What the reference's Cut answers. -/
def RCutE (Cs : List (Int × Int)) (x : Int × Int) (w : World) (e : Ending) (w' : World) : Prop :=
  w = w' ∧ ((x ∉ Cs ∧ e = .returned (.int .i64 (-1))) ∨ ∃ k : Nat, Cs[k]? = some x ∧ e = .returned (.int .i64 (k : Int)))

set_option maxRecDepth 20000 in
set_option maxHeartbeats 2000000 in
theorem refCut (f t : Int) (w : World) (h : RefR w g R A cap Cs B capB room) : Calls Try.prog 30 #[.pointer (some ⟨g, 0, none⟩), .int .i64 f, .int .i64 t] w (RCutE Cs (f, t) w) := by
  have c2 := h.blk.cell 2 rfl
  have hl := h.fits.2
  have H := Lib.hid h
  clear h
  go_enter Try.func30, Try.ntmps30
  go_wp2_with fail
  go_loop [7] (fun i => ∃ k : Nat, k ≤ Cs.length ∧ i = .int .i64 (k : Int) ∧ Hid ((f, t) ∉ Cs.take k)) (fun i => Cs.length - (intOf i).toNat)
  case atStart => exact ⟨0, Nat.zero_le _, rfl, Lib.hid (by simp)⟩
  case round =>
    obtain ⟨k, hk, rfl, hn⟩ := hrel
    by_cases hlt : k < Cs.length
    · obtain ⟨b, off, rfl, hbl, hc⟩ := H.out.cuts.rs.row (i := k) (by simpa using hlt)
      have d0 := hc 0 (.int .i64 Cs[k].1) (by simp [pairCells])
      have d1 := hc 1 (.int .i64 Cs[k].2) (by simp [pairCells])
      rw [Nat.add_zero] at d0
      obtain ⟨x, hx⟩ : ∃ x, x = Cs[k] := ⟨_, rfl⟩
      rw [← hx] at d0 d1
      have HX : Hid (Cs[k]? = some x) := Lib.hid (by rw [List.getElem?_eq_getElem hlt, hx])
      clear hc hbl hx
      by_cases he : x = (f, t)
      · subst he
        have heq : (Op.equalIn 10000 70 (.agg #[.int .i64 f, .int .i64 t]) (.agg #[.int .i64 f, .int .i64 t])).run Try.prog w = .ok true w := by rw [pair_eq]; simp
        go_wp2_with fail
        go_ret
        exact ⟨rfl, .inr ⟨k, HX.out, rfl⟩⟩
      · have heq : (Op.equalIn 10000 70 (.agg #[.int .i64 x.1, .int .i64 x.2]) (.agg #[.int .i64 f, .int .i64 t])).run Try.prog w = .ok false w := by rw [pair_eq]; simp only [decide_eq_false he]
        have HN : Hid ((f, t) ∉ Cs.take (k + 1)) := Lib.hid (by
          rw [List.take_add_one, HX.out]
          simp only [Option.toList_some, List.mem_append, List.mem_singleton, not_or]
          exact ⟨hn.out, fun e => he e.symm⟩)
        clear he hn
        go_wp2_with fail
        go_round
        case rel => exact ⟨k + 1, by omega, by go_num, HN⟩
        case measure => simp [intOf]; omega
    · obtain rfl : k = Cs.length := by omega
      go_wp2_with fail
      go_ret
      rw [List.take_length] at hn
      exact ⟨rfl, .inl ⟨hn.out, rfl⟩⟩

theorem refSend_bad (f t : Int) (D : Option Addr) (c : Nat) (d : List UInt8) (w : World) (hok : okB f t = false) : Calls Try.prog 28 #[.pointer (some ⟨g, 0, none⟩), .int .i64 f, .int .i64 t, .slice D d.length c] w fun e w' => e = .returned (.int .i64 1) ∧ w = w' := by
  cases h1 : endB f
  · go_enter Try.func28, Try.ntmps28
    go_wp2_with fail
    refine (refEnd f _).mono ?_
    rintro e w' ⟨rfl, rfl⟩
    rw [h1]
    go_wp2_with fail
    go_ret
    exact ⟨rfl, rfl⟩
  · cases h2 : endB t
    · go_enter Try.func28, Try.ntmps28
      go_wp2_with fail
      refine (refEnd f _).mono ?_
      rintro e w' ⟨rfl, rfl⟩
      rw [h1]
      go_wp2_with fail
      refine (refEnd t _).mono ?_
      rintro e w' ⟨rfl, rfl⟩
      rw [h2]
      go_wp2_with fail
      go_ret
      exact ⟨rfl, rfl⟩
    · have h3 : f = t := by simpa [okB, h1, h2] using hok
      subst h3
      have h3' : (f == f) = true := by simp
      clear hok h2
      go_enter Try.func28, Try.ntmps28
      go_wp2_with fail
      refine (refEnd f _).mono ?_
      rintro e w' ⟨rfl, rfl⟩
      rw [h1]
      go_wp2_with fail
      refine (refEnd f _).mono ?_
      rintro e w' ⟨rfl, rfl⟩
      rw [h1]
      go_wp2_with fail
      go_ret
      exact ⟨rfl, rfl⟩

set_option maxHeartbeats 1000000 in
theorem refSend_large (f t : Int) (D : Option Addr) (c : Nat) (d : List UInt8) (w : World) (hok : okB f t = true) (hd : 65536 < d.length) : Calls Try.prog 28 #[.pointer (some ⟨g, 0, none⟩), .int .i64 f, .int .i64 t, .slice D d.length c] w fun e w' => e = .returned (.int .i64 7) ∧ w = w' := by
  simp only [okB, Bool.and_eq_true, decide_eq_true_eq] at hok
  obtain ⟨⟨h1, h2⟩, h3⟩ := hok
  have h3' : (f == t) = false := by simpa using h3
  clear h3
  have hd' : (65536 : Int) < (d.length : Int) := by omega
  go_enter Try.func28, Try.ntmps28
  go_wp2_with fail
  refine (refEnd f _).mono ?_
  rintro e w' ⟨rfl, rfl⟩
  rw [h1]
  go_wp2_with fail
  refine (refEnd t _).mono ?_
  rintro e w' ⟨rfl, rfl⟩
  rw [h2]
  go_wp2_with fail
  go_ret
  exact ⟨rfl, rfl⟩

set_option maxHeartbeats 1000000 in
theorem refSend_cut (f t : Int) (D : Option Addr) (c : Nat) (d : List UInt8) (w : World) (h : RefR w g R A cap Cs B capB room) (hok : okB f t = true) (hd : d.length ≤ 65536) (hc : (f, t) ∈ Cs) : Calls Try.prog 28 #[.pointer (some ⟨g, 0, none⟩), .int .i64 f, .int .i64 t, .slice D d.length c] w fun e w' => e = .returned (.int .i64 11) ∧ w = w' := by
  simp only [okB, Bool.and_eq_true, decide_eq_true_eq] at hok
  obtain ⟨⟨h1, h2⟩, h3⟩ := hok
  have h3' : (f == t) = false := by simpa using h3
  clear h3
  have hd' : ¬ (65536 : Int) < (d.length : Int) := by omega
  have HC := Lib.hid (refCut f t w h)
  have HM := Lib.hid hc
  clear h hc
  go_enter Try.func28, Try.ntmps28
  go_wp2_with fail
  refine (refEnd f _).mono ?_
  rintro e w' ⟨rfl, rfl⟩
  rw [h1]
  go_wp2_with fail
  refine (refEnd t _).mono ?_
  rintro e w' ⟨rfl, rfl⟩
  rw [h2]
  go_wp2_with fail
  refine HC.out.mono ?_
  rintro e w' ⟨rfl, ⟨hn, rfl⟩ | ⟨k, hk, rfl⟩⟩
  · exact absurd HM.out hn
  · have HK := Lib.hid hk
    clear hk
    go_wp2_with fail
    go_ret
    exact ⟨rfl, rfl⟩

set_option maxHeartbeats 1000000 in
theorem refSend_full (f t : Int) (D : Option Addr) (c : Nat) (d : List UInt8) (w : World) (h : RefR w g R A cap Cs B capB room) (hok : okB f t = true) (hd : d.length ≤ 65536) (hc : (f, t) ∉ Cs) (hr : room ≤ (R.length : Int)) : Calls Try.prog 28 #[.pointer (some ⟨g, 0, none⟩), .int .i64 f, .int .i64 t, .slice D d.length c] w fun e w' => e = .returned (.int .i64 10) ∧ Below w.heap.size w w' := by
  simp only [okB, Bool.and_eq_true, decide_eq_true_eq] at hok
  obtain ⟨⟨h1, h2⟩, h3⟩ := hok
  have h3' : (f == t) = false := by simpa using h3
  clear h3
  have hd' : ¬ (65536 : Int) < (d.length : Int) := by omega
  have HC := Lib.hid (refCut f t w h)
  have HM := Lib.hid hc
  have hl := h.fits
  have c0 := h.blk.cell 0 rfl
  have c1 := h.blk.cell 1 rfl
  clear h hc
  go_enter Try.func28, Try.ntmps28
  go_wp2_with fail
  refine (refEnd f _).mono ?_
  rintro e w' ⟨rfl, rfl⟩
  rw [h1]
  go_wp2_with fail
  refine (refEnd t _).mono ?_
  rintro e w' ⟨rfl, rfl⟩
  rw [h2]
  go_wp2_with fail
  refine HC.out.mono ?_
  rintro e w' ⟨rfl, ⟨hn, rfl⟩ | ⟨k, hk, rfl⟩⟩
  · clear hn
    go_wp2_with fail
    go_quiet (fail)
    go_wp2_with fail
    go_ret
    exact ⟨rfl, below_drewN (Below.refl _ _) _⟩
  · exact absurd (List.mem_of_getElem? hk) HM.out

/-- What the reference's Send ends in. -/
def RSendE (g : Nat) (R : List Ltr) (A : Option Addr) (Cs : List (Int × Int)) (B : Option Addr) (capB : Nat) (room f t : Int) (d : List UInt8) (w : World) (e : Ending) (w' : World) : Prop :=
  ∃ (A' : Option Addr) (cap' : Nat) (D' : Option Addr) (c' : Nat) (d' : List UInt8), e = .returned (.int .i64 0) ∧ Hid (d' = d) ∧ RefR w' g (R ++ [⟨f, t, D', c', d'⟩]) A' cap' Cs B capB room ∧ Mods (PF g A) w w' ∧
    (∀ b, D'.map (·.block) = some b → w.heap.size ≤ b) ∧ (A'.map (·.block) = A.map (·.block) ∨ ∀ b, A'.map (·.block) = some b → w.heap.size ≤ b)

theorem RefR.ne_row {w : World} (h : RefR w g R A cap Cs B capB room) : A.map (·.block) ≠ some g := h.row.ne_var h.blk (by decide)
theorem RefR.cuts_ne_var {w : World} (h : RefR w g R A cap Cs B capB room) : B.map (·.block) ≠ some g := h.cuts.ne_var h.blk (by decide)
theorem OR.ne_OR {w : World} {base c k base' c' k' : Nat} {A B : Option Addr} {e e' : TypeId} {rows rows' : List (List Value)} (h : OR w base e k A c rows) (h' : OR w base' e' k' B c' rows') (hne : e ≠ e') : ∀ b, B.map (·.block) = some b → A.map (·.block) ≠ some b := by
  intro b hb ha
  obtain ⟨cs, h1⟩ := h.blk b ha
  obtain ⟨ds, h2⟩ := h'.blk b hb
  exact cells_ne h1 h2 hne rfl

set_option maxRecDepth 20000 in
set_option maxHeartbeats 4000000 in
theorem refSend (f t : Int) (D : Option Addr) (c : Nat) (d : List UInt8) (w : World) (h : RefR w g R A cap Cs B capB room) (hok : okB f t = true) (hd : d.length ≤ 65536) (hc : (f, t) ∉ Cs) (hr : (R.length : Int) < room) (hr2 : R.length < 4096) (hD : RB w D d) : Calls Try.prog 28 #[.pointer (some ⟨g, 0, none⟩), .int .i64 f, .int .i64 t, .slice D d.length c] w (RSendE g R A Cs B capB room f t d w) := by
  simp only [okB, Bool.and_eq_true, decide_eq_true_eq] at hok
  obtain ⟨⟨h1, h2⟩, h3⟩ := hok
  have h3' : (f == t) = false := by simpa using h3
  clear h3
  have hd' : ¬ (65536 : Int) < (d.length : Int) := by omega
  have HC := Lib.hid (refCut f t w h)
  have HM := Lib.hid hc
  have hl := h.fits
  have c0 := h.blk.cell 0 rfl
  have c1 := h.blk.cell 1 rfl
  have H := Lib.hid h
  clear h hc
  go_enter Try.func28, Try.ntmps28
  go_wp2_with fail
  refine (refEnd f _).mono ?_
  rintro e w' ⟨rfl, rfl⟩
  rw [h1]
  go_wp2_with fail
  refine (refEnd t _).mono ?_
  rintro e w' ⟨rfl, rfl⟩
  rw [h2]
  go_wp2_with fail
  refine HC.out.mono ?_
  rintro e w' ⟨rfl, ⟨hn, rfl⟩ | ⟨k, hk, rfl⟩⟩
  case inr => exact absurd (List.mem_of_getElem? hk) HM.out
  clear hn
  go_wp2_with fail
  go_quiet (fail)
  go_wp2_with fail
  clear c0 c1
  refine wp_region_planE_gen (by kernel_rfl) [(0, none), (1, none), (2, none), (3, none), (4, none), (5, none), (6, none), (8, none), (7, some []), (9, some [8]), (10, none), (11, some [10]), (12, some [4]), (13, none), (14, none), (15, some [0, 1, 2, 3, 4, 5, 6, 8, 10, 14])] (by kernel_rfl) (by kernel_rfl) (by decide) ?_
  intro wq hwq
  have hbq : Below w.heap.size w wq := by rw [hwq]; exact (below_drewN (Below.refl _ _) _).drew
  have c1 := (H.out.below hbq).blk.cell 1 rfl
  clear hwq
  iterate 4 (refine planE_pure (v := ?_) rfl (by rfl) (fun w' => ?_) ?_; rotate_left; (focus (simp only [List.getElem_toArray, List.getElem_cons_succ, List.getElem_cons_zero]; go_simp; first | with_reducible rfl | (simp (disch := omega) only [if_pos, if_neg, Result.andThen_ok]; try with_reducible rfl) | skip)); try simp only [List.getElem_toArray, List.getElem_cons_succ, List.getElem_cons_zero, Act.put, List.setIfInBounds_toArray, List.set_cons_zero, List.set_cons_succ])
  refine planE_cells (v := ?_) [(⟨g, 1, none⟩, .slice A R.length cap)] (by simp; and_intros <;> assumption) rfl (by rfl) (fun w' hw' => ?_) ?_; rotate_left; (focus (simp only [List.forall_mem_cons, List.not_mem_nil, false_imp_iff, implies_true, and_true] at hw'; simp only [List.getElem_toArray, List.getElem_cons_succ, List.getElem_cons_zero]; go_simp; first | with_reducible rfl | (simp (disch := omega) only [if_pos, if_neg, Result.andThen_ok]; try with_reducible rfl) | skip)); try simp only [List.getElem_toArray, List.getElem_cons_succ, List.getElem_cons_zero, Act.put, List.setIfInBounds_toArray, List.set_cons_zero, List.set_cons_succ]
  iterate 3 (refine planE_pure (v := ?_) rfl (by rfl) (fun w' => ?_) ?_; rotate_left; (focus (simp only [List.getElem_toArray, List.getElem_cons_succ, List.getElem_cons_zero]; go_simp; first | with_reducible rfl | (simp (disch := omega) only [if_pos, if_neg, Result.andThen_ok]; try with_reducible rfl) | skip)); try simp only [List.getElem_toArray, List.getElem_cons_succ, List.getElem_cons_zero, Act.put, List.setIfInBounds_toArray, List.set_cons_zero, List.set_cons_succ])
  refine planE_eff rfl (by rfl) (fun K hK => ?_)
  go_simp
  have hb2 : Below wq.heap.size wq (wq.alloc (.cells #[] 5)) := (Below.refl _ _).alloc (Nat.le_refl _) _
  have hB2 := hbq.trans (hb2.mono hbq.size)
  have hO2 := OB.made0 wq hbq.size
  obtain ⟨eb, heb⟩ : ∃ eb, eb = wq.heap.size := ⟨_, rfl⟩
  have hse : w.heap.size ≤ eb := by rw [heb]; exact hbq.size
  rw [← heb] at hO2 ⊢
  generalize wq.alloc (.cells #[] 5) = w2 at *
  clear c1 hb2 hbq heb
  have c1 := (H.out.below hB2).blk.cell 1 rfl
  refine hK _ _ (by simp [owed, left] <;> (and_intros <;> first | trivial | assumption)) ?_
  clear hK K
  try simp only [List.getElem_toArray, List.getElem_cons_succ, List.getElem_cons_zero, Act.put, List.setIfInBounds_toArray, List.set_cons_zero, List.set_cons_succ]
  refine planE_eff rfl (by rfl) (fun K hK => ?_)
  refine op_appendB w2 (.tmp 47) (.tmp 48) (by rfl) w.heap.size (some ⟨eb, 0, none⟩) D 0 c [] d (by rfl) (by rfl) hO2 (hD.below hB2) (by simp; omega) hB2.size ?_
  intro d' D' c' w3 hd3 hd1 hd2 ho3 hg3
  have hB3 := hB2.grown hg3 hB2.size (fun b hb => by simp [Value.ownBlock] at hb; omega)
  have hd' : Hid (d' = d) := Lib.hid (by simpa using hd3.out)
  simp only [List.length_nil, Nat.zero_add] at hd1 hd2
  clear c1 hO2 hg3 hB2 hd3
  have c1 := (H.out.below hB3).blk.cell 1 rfl
  refine hK _ _ (by simp [owed, left] <;> (and_intros <;> first | trivial | assumption)) ?_
  clear hK K
  try simp only [List.getElem_toArray, List.getElem_cons_succ, List.getElem_cons_zero, Act.put, List.setIfInBounds_toArray, List.set_cons_zero, List.set_cons_succ]
  iterate 1 (refine planE_pure (v := ?_) rfl (by rfl) (fun w' => ?_) ?_; rotate_left; (focus (simp only [List.getElem_toArray, List.getElem_cons_succ, List.getElem_cons_zero]; go_simp; first | with_reducible rfl | (simp (disch := omega) only [if_pos, if_neg, Result.andThen_ok]; try with_reducible rfl) | skip)); try simp only [List.getElem_toArray, List.getElem_cons_succ, List.getElem_cons_zero, Act.put, List.setIfInBounds_toArray, List.set_cons_zero, List.set_cons_succ])
  refine planE_eff rfl (by rfl) (fun K hK => ?_)
  go_simp
  have hb4 : Below w3.heap.size w3 (w3.alloc (.cells #[.int .i64 f, .int .i64 t, .slice D' d'.length c'] 68)) := (Below.refl _ _).alloc (Nat.le_refl _) _
  have hL4 := Blk.new w3 #[.int .i64 f, .int .i64 t, .slice D' d'.length c'] 68
  have hB4 := hB3.trans (hb4.mono hB3.size)
  have ho4 := ho3.below hb4
  obtain ⟨lb, hlb⟩ : ∃ lb, lb = w3.heap.size := ⟨_, rfl⟩
  rw [← hlb] at hL4 ⊢
  generalize w3.alloc (.cells #[.int .i64 f, .int .i64 t, .slice D' d'.length c'] 68) = w4 at *
  clear c1 hB3 hb4 ho3 hlb
  have c1 := (H.out.below hB4).blk.cell 1 rfl
  refine hK _ _ (by simp [owed, left] <;> (and_intros <;> first | trivial | assumption)) ?_
  clear hK K
  try simp only [List.getElem_toArray, List.getElem_cons_succ, List.getElem_cons_zero, Act.put, List.setIfInBounds_toArray, List.set_cons_zero, List.set_cons_succ]
  refine planE_eff rfl (by rfl) (fun K hK => ?_)
  obtain ⟨i0, hi0, hz0, hz1, hz2⟩ := info_parts rletter_info
  have h4 := H.out.below hB4
  refine op_appendS w4 (.tmp 44) (.tmp 51) 42 68 (by rfl) Try.underlying42 hi0 hz0 hz1 hz2 rfl (by decide) 0 A (some ⟨lb, 0, none⟩) cap 1 (R.map Ltr.cells) [[.int .i64 f, .int .i64 t, .slice D' d'.length c']] (by simp; rfl) (by rfl) h4.row (RS.lit hL4) (by simp) (by simp [Value.oneCell']) (by simp; omega) (by simp; omega) (Nat.zero_le _) ?_
  intro ys A' cap' w5 hys hy1 hy2 hrow5 hg5 hA5
  have hk5 := h4.blk.grown hg5 h4.ne_row
  have hcut5 := h4.cuts.grown_row hg5 (h4.cuts.ne_OR h4.row (by decide))
  have hd5 : ∀ r ∈ R, OB w5 0 r.A r.c r.d ∧ r.d.length ≤ 65536 := fun r hr => ⟨(h4.data r hr).1.grown_row hg5 ((h4.data r hr).1.ne_row h4.row (by decide)), (h4.data r hr).2⟩
  have hn5 : OB w5 0 D' c' d' := (ho4.base_le (Nat.zero_le _)).grown_row hg5 ((ho4.base_le (Nat.zero_le _)).ne_row h4.row (by decide))
  have hm5 : Mods (PF g A) w w5 := (Mods.of_below hB4).then (.of_grown hg5 fun k hk => .inr hk)
  have hDf : ∀ b, D'.map (·.block) = some b → w.heap.size ≤ b := fun b hb => (ho4.blk_lt b hb).1
  have hA5g : A'.map (·.block) ≠ some g := by
    rcases hA5 with e | e
    · rw [e]; exact h4.ne_row
    · rw [e]; have := h4.blk.lt; intro e'; injection e' with e'; omega
  have hA5f : A'.map (·.block) = A.map (·.block) ∨ ∀ b, A'.map (·.block) = some b → w.heap.size ≤ b := by
    rcases hA5 with e | e
    · exact .inl e
    · refine .inr fun b hb => ?_
      rw [e] at hb
      injection hb with hb
      have := hB4.size
      omega
  have hBg := h4.cuts_ne_var
  have HY := Lib.hid hys.out
  have HDf := Lib.hid hDf
  clear c1 h4 hB4 ho4 hg5 hA5 hL4 hys hDf
  have c1 := hk5.cell 1 rfl
  have f1 := hk5.free 1
  refine hK _ _ (by simp [owed, left] <;> (and_intros <;> first | trivial | assumption)) ?_
  clear hK K
  try simp only [List.getElem_toArray, List.getElem_cons_succ, List.getElem_cons_zero, Act.put, List.setIfInBounds_toArray, List.set_cons_zero, List.set_cons_succ]
  iterate 2 (refine planE_pure (v := ?_) rfl (by rfl) (fun w' => ?_) ?_; rotate_left; (focus (simp only [List.getElem_toArray, List.getElem_cons_succ, List.getElem_cons_zero]; go_simp; first | with_reducible rfl | (simp (disch := omega) only [if_pos, if_neg, Result.andThen_ok]; try with_reducible rfl) | skip)); try simp only [List.getElem_toArray, List.getElem_cons_succ, List.getElem_cons_zero, Act.put, List.setIfInBounds_toArray, List.set_cons_zero, List.set_cons_succ])
  refine planE_eff rfl (by rfl) (fun K hK => ?_)
  go_simp
  skip
  refine hK _ _ (by simp [owed, left] <;> (and_intros <;> first | trivial | assumption)) ?_
  clear hK K
  try simp only [List.getElem_toArray, List.getElem_cons_succ, List.getElem_cons_zero, Act.put, List.setIfInBounds_toArray, List.set_cons_zero, List.set_cons_succ]
  refine planE_end ?_
  have hk6 := hk5.setCell 1 (.slice A' ys.length cap')
  rw [show (#[.int .i64 room, .slice A R.length cap, .slice B Cs.length capB] : Array Value).setIfInBounds 1 (.slice A' ys.length cap') = #[.int .i64 room, .slice A' ys.length cap', .slice B Cs.length capB] from rfl] at hk6
  have hrow6 := hrow5.setCell_ne (p := ⟨g, 1, none⟩) hA5g (.slice A' ys.length cap')
  have hcut6 := hcut5.setCell_ne (p := ⟨g, 1, none⟩) hBg (.slice A' ys.length cap')
  have hd6 : ∀ r ∈ R, OB (w5.setCell ⟨g, 1, none⟩ (.slice A' ys.length cap')) 0 r.A r.c r.d ∧ r.d.length ≤ 65536 := fun r hr => ⟨(hd5 r hr).1.setCell_ne (p := ⟨g, 1, none⟩) ((hd5 r hr).1.ne_var hk5 (by decide)) _, (hd5 r hr).2⟩
  have hn6 := hn5.setCell_ne (p := ⟨g, 1, none⟩) (hn5.ne_var hk5 (by decide)) (.slice A' ys.length cap')
  have hm6 := hm5.setCell ⟨g, 1, none⟩ (.inl (.inl rfl)) (.slice A' ys.length cap')
  have hyl : ys.length = R.length + 1 := by rw [HY.out]; simp
  have HP : Hid (RefR (w5.setCell ⟨g, 1, none⟩ (.slice A' ys.length cap')) g (R ++ [⟨f, t, D', c', d'⟩]) A' cap' Cs B capB room) := Lib.hid ⟨by rw [List.length_append, List.length_singleton, ← hyl]; exact hk6, by
      rw [List.map_append, show List.map Ltr.cells [⟨f, t, D', c', d'⟩] = [[.int .i64 f, .int .i64 t, .slice D' d'.length c']] from rfl, ← HY.out]; exact hrow6, fun r hr => by
      rcases List.mem_append.1 hr with hr | hr
      · exact hd6 r hr
      · rw [List.mem_singleton] at hr
        subst hr
        exact ⟨hn6, by show d'.length ≤ 65536; omega⟩, hcut6, by rw [List.length_append, List.length_singleton]; omega, hl.2⟩
  have HM6 := Lib.hid hm6
  generalize w5.setCell ⟨g, 1, none⟩ (.slice A' ys.length cap') = w6 at *
  clear hk6 hrow6 hcut6 hd6 hn6 hm6 hyl hk5 hcut5 hd5 hn5 hm5 c1 f1 hrow5 HY
  go_wp2_with fail
  go_ret
  exact ⟨A', cap', D', c', d', rfl, hd', HP.out, HM6.out, HDf.out, hA5f⟩
end
end Go.Proofs.Ytihmnkkhccihpaa
