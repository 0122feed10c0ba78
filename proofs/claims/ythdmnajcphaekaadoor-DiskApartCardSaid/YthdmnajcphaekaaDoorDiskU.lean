/- The law's act (layer 4): a call on both disks. -/
import Derived.Test.YthdmnajcphaekaaDoorDskR
import Derived.Test.YthdmnajcphaekaaDoorRefDL
import Derived.Test.YthdmnajcphaekaaDoorConv
namespace Go.Proofs.YthdmnajcphaekaaDoor
open Go.RowKit

section
variable {M S : Nat → Prop} {w w' : World} {g : Nat} {D : DSt}
theorem refChange (kind : Int) (name : Nm) (off : Int) (data : List UInt8) (Y : Option Addr) (cy : Nat) (h : RI M S w g D) (hY : RB w Y data) (hYM : 0 < data.length → ∀ b, Y.map (·.block) = some b → ¬ M b) (hcnt : D.cnt ≤ 1000000) (hs : name.length ≤ 9223372036854775807) (ho : -9223372036854775808 ≤ off ∧ off ≤ 9223372036854775807) (hdl : data.length ≤ 140737488355328) (hk : kind = 1 ∨ kind = 2 ∨ kind = 3) (hdat : kind ≠ 1 → data = []) :
    Calls Tryd.prog 43 #[.pointer (some ⟨g, 0, none⟩), .agg #[.int .i64 kind, .string ⟨name.toArray⟩, .int .i64 off, .slice Y data.length cy]] w (RDone M S w g (changeD D ⟨kind, name, off.toNat, data⟩ off).2 (.int .i64 (changeD D ⟨kind, name, off.toNat, data⟩ off).1)) := by
  obtain ⟨A, c, L, B, cu, U, hr⟩ := h
  cases hd : D.down
  · by_cases hb : nameOk name = false ∨ off < 0 ∨ 4194304 < off
    · rw [changeD_err _ _ _ (refuse_bad (c := ⟨kind, name, off.toNat, data⟩) hd hb) (by decide)]
      exact refChange_bad kind name off data Y cy hr hd hs ho hb
    · have hn : nameOk name = true := by
        cases hn : nameOk name
        · exact absurd (.inl hn) hb
        · rfl
      obtain ⟨on, rfl⟩ : ∃ on : Nat, off = (on : Int) := ⟨off.toNat, by omega⟩
      exact refChange_good kind name on data Y cy hr hY hYM hcnt hd hs (by omega) hdl hk hdat hn
  · rw [changeD_err _ _ _ (refuse_down hd) (by decide)]
    exact refChange_down _ hr hd
end
/-- A disk and its reference, apart. -/
structure Pair (T M S : Nat → Prop) (w : World) (d : Nat) (D : DSt) (g : Nat) (E : DSt) : Prop where
  di : DI T w d D
  ri : RI M S w g E
  ap : ∀ b, T b → ¬ M b ∧ ¬ S b
theorem RI.bnd {M S : Nat → Prop} {w : World} {g : Nat} {D : DSt} (h : RI M S w g D) : ∀ b, M b ∨ S b → b < w.heap.size := by
  obtain ⟨A, c, L, B, cu, U, hr⟩ := h
  exact hr.bnd
theorem RI.dis {M S : Nat → Prop} {w : World} {g : Nat} {D : DSt} (h : RI M S w g D) : ∀ b, S b → ¬ M b := by
  obtain ⟨A, c, L, B, cu, U, hr⟩ := h
  exact hr.dis
theorem Pair.below {T M S : Nat → Prop} {w w' : World} {d g : Nat} {D E : DSt} (h : Pair T M S w d D g E) (hb : Below w.heap.size w w') : Pair T M S w' d D g E := ⟨h.di.below hb, h.ri.below hb, h.ap⟩
theorem Pair.mods {T M S R : Nat → Prop} {w w' : World} {d g : Nat} {D E : DSt} (h : Pair T M S w d D g E) (k : Mods R w w') (hd : ∀ b, T b ∨ M b ∨ S b → ¬ R b) : Pair T M S w' d D g E :=
  ⟨h.di.mods k fun b _ hb => hd b (.inl hb), h.ri.mods k fun b _ hb => hd b (.inr hb), h.ap⟩
/-- What a call on both ends in: both are as they should be; what else was there stays. -/
def Pair2 (T M S : Nat → Prop) (w : World) (d : Nat) (D : DSt) (g : Nat) (E : DSt) (w' : World) : Prop :=
  (∃ T' M' S' : Nat → Prop, Pair T' M' S' w' d D g E ∧ (∀ b, T' b → T b ∨ News w w' b) ∧ (∀ b, M' b → M b ∨ News w w' b) ∧ (∀ b, S' b → S b ∨ News w w' b)) ∧ Mods (fun b => T b ∨ M b) w w'
section
variable {T M S : Nat → Prop} {w w1 w2 w3 : World} {d g : Nat} {D D' E E' : DSt}
/-- First the disk, then its reference. -/
theorem Pair.second (h : Pair T M S w d D g E) (hb : Below w.heap.size w w1) (h2 : DI (Sx T w1 w2) w2 d D' ∧ Mods T w1 w2) : Pair (Sx T w1 w2) M S w2 d D' g E ∧ Mods (fun b => T b ∨ M b) w w2 := by
  obtain ⟨h2, m2⟩ := h2
  refine ⟨⟨h2, (h.ri.below hb).mods m2 fun b _ hb hT => ?_, fun b hT => ?_⟩, (Mods.of_below hb).then (m2.mono fun b _ hb => .inl hb)⟩
  · have := h.ap b hT
    rcases hb with hb | hb
    · exact this.1 hb
    · exact this.2 hb
  · rcases hT with hT | hT
    · exact h.ap b hT
    · have h0 := hb.size
      constructor
      · intro hM; have := h.ri.bnd b (.inl hM); have := hT.1; omega
      · intro hS; have := h.ri.bnd b (.inr hS); have := hT.1; omega
theorem Pair.fin (h : Pair T M S w d D g E) (hb : Below w.heap.size w w1) (h2 : DI (Sx T w1 w2) w2 d D' ∧ Mods T w1 w2) (h3 : (∃ M' S' : Nat → Prop, RI M' S' w3 g E' ∧ (∀ b, M' b → M b ∨ News w2 w3 b) ∧ (∀ b, S' b → S b ∨ News w2 w3 b)) ∧ Mods M w2 w3) : Pair2 T M S w d D' g E' w3 := by
  obtain ⟨hp, m2⟩ := h.second hb h2
  obtain ⟨⟨M', S', hr, hM, hS⟩, m3⟩ := h3
  have hs2 := h2.2.size
  have hs1 := hb.size
  have hs3 := m3.size
  refine ⟨⟨Sx T w1 w2, M', S', ⟨hp.di.mods m3 fun b _ hT => (hp.ap b hT).1, hr, fun b hT => ⟨fun hx => ?_, fun hx => ?_⟩⟩, fun b hT => ?_, fun b hx => ?_, fun b hx => ?_⟩, m2.then (m3.mono fun b _ hb => .inr hb)⟩
  · rcases hM b hx with h1 | h1
    · exact (hp.ap b hT).1 h1
    · have := hp.di.bnd b hT; have := h1.1; omega
  · rcases hS b hx with h1 | h1
    · exact (hp.ap b hT).2 h1
    · have := hp.di.bnd b hT; have := h1.1; omega
  · rcases hT with hT | hT
    · exact .inl hT
    · exact .inr ⟨by have := hT.1; omega, by have := hT.2; omega⟩
  · rcases hM b hx with h1 | h1
    · exact .inl h1
    · exact .inr ⟨by have := h1.1; omega, h1.2⟩
  · rcases hS b hx with h1 | h1
    · exact .inl h1
    · exact .inr ⟨by have := h1.1; omega, h1.2⟩
/-- First the reference, then the disk. -/
theorem Pair.fin' (h : Pair T M S w d D g E) (hb : Below w.heap.size w w1) (h2 : (∃ M' S' : Nat → Prop, RI M' S' w2 g E' ∧ (∀ b, M' b → M b ∨ News w1 w2 b) ∧ (∀ b, S' b → S b ∨ News w1 w2 b)) ∧ Mods M w1 w2) (h3 : DI (Sx T w2 w3) w3 d D' ∧ Mods T w2 w3) : Pair2 T M S w d D' g E' w3 := by
  obtain ⟨⟨M', S', hr, hM, hS⟩, m2⟩ := h2
  obtain ⟨hd, m3⟩ := h3
  have hs1 := hb.size
  have hs2 := m2.size
  have hs3 := m3.size
  have hap : ∀ b, M' b ∨ S' b → ¬ T b := fun b hx hT => by
    have hl := h.di.bnd b hT
    rcases hx with hx | hx
    · rcases hM b hx with h1 | h1
      · exact (h.ap b hT).1 h1
      · have := h1.1; omega
    · rcases hS b hx with h1 | h1
      · exact (h.ap b hT).2 h1
      · have := h1.1; omega
  refine ⟨⟨Sx T w2 w3, M', S', ⟨hd, hr.mods m3 fun b _ hx => hap b hx, fun b hT => ⟨fun hx => ?_, fun hx => ?_⟩⟩, fun b hT => ?_, fun b hx => ?_, fun b hx => ?_⟩, ((Mods.of_below hb).then (m2.mono fun b _ hb => .inr hb)).then (m3.mono fun b _ hb => .inl hb)⟩
  · rcases hT with hT | hT
    · exact hap b (.inl hx) hT
    · have := hr.bnd b (.inl hx); have := hT.1; omega
  · rcases hT with hT | hT
    · exact hap b (.inr hx) hT
    · have := hr.bnd b (.inr hx); have := hT.1; omega
  · rcases hT with hT | hT
    · exact .inl hT
    · exact .inr ⟨by have := hT.1; omega, hT.2⟩
  · rcases hM b hx with h1 | h1
    · exact .inl h1
    · exact .inr ⟨by have := h1.1; omega, by have := h1.2; omega⟩
  · rcases hS b hx with h1 | h1
    · exact .inl h1
    · exact .inr ⟨by have := h1.1; omega, by have := h1.2; omega⟩
theorem Pair.still (h : Pair T M S w d D g E) (hb : Below w.heap.size w w1) : Pair2 T M S w d D g E w1 :=
  ⟨⟨T, M, S, h.below hb, fun b hb => .inl hb, fun b hb => .inl hb, fun b hb => .inl hb⟩, .of_below hb⟩
end
/-- What an act makes of a disk. -/
def actD (D : DSt) (kind : Int) (name : Nm) (n : Int) (data : List UInt8) (mask : Nat) : DSt :=
  if kind = 1 then (changeD D ⟨1, name, n.toNat, data⟩ n).2 else if kind = 2 then (changeD D ⟨2, name, n.toNat, []⟩ n).2 else if kind = 3 then (changeD D ⟨3, name, 0, []⟩ 0).2
  else if kind = 4 then (syncD D).2 else if kind = 6 then (roomD D n).2 else if kind = 7 then (fuseD D n).2 else if kind = 8 then fallD D mask n else D
def ActEnd (T M S : Nat → Prop) (w : World) (d : Nat) (D : DSt) (g : Nat) (E : DSt) (D' E' : DSt) (e : Ending) (w' : World) : Prop :=
  ∃ b : Bool, e = .returned (.bool b) ∧ Hid (D = E → b = true) ∧ Pair2 T M S w d D' g E' w'
section
variable {T M S : Nat → Prop} {w : World} {d g : Nat} {D E : DSt}
theorem beq_codes {x y : Int} {b : Bool} (hb : b = (x == y)) (h : D = E → x = y) : D = E → b = true := fun e => by rw [hb, h e]; simp

set_option maxRecDepth 20000 in
set_option maxHeartbeats 8000000 in
theorem lawAct4 (name : Nm) (n : Int) (data : List UInt8) (Y : Option Addr) (cy : Nat) (mask : Nat) (h : Pair T M S w d D g E) (hY : RB w Y data) (hYM : 0 < data.length → ∀ b, Y.map (·.block) = some b → ¬ T b ∧ ¬ M b) (hcD : D.cnt ≤ 1000000) (hcE : E.cnt ≤ 1000000) (hs : name.length ≤ 9223372036854775807) (hn : -9223372036854775808 ≤ n ∧ n ≤ 9223372036854775807) (hdl : data.length ≤ 140737488351232) (hm : mask < 18446744073709551616) : Calls Tryd.prog 22 #[.pointer (some ⟨d, 0, none⟩), .pointer (some ⟨g, 0, none⟩), .agg #[.int .i64 4, .string ⟨name.toArray⟩, .int .i64 n, .slice Y data.length cy, .int .u64 (mask : Int)]] w (ActEnd T M S w d D g E (actD D 4 name n data mask) (actD E 4 name n data mask)) := by
  have hal : Below w.heap.size w (w.alloc (.cells #[.int .i64 4, .string ⟨name.toArray⟩, .int .i64 n, .slice Y data.length cy, .int .u64 (mask : Int)] 26)) := (Below.refl _ _).alloc (Nat.le_refl _) _
  have hx := Blk.new w #[.int .i64 4, .string ⟨name.toArray⟩, .int .i64 n, .slice Y data.length cy, .int .u64 (mask : Int)] 26
  have hp := h.below hal
  have hrb := hY.below hal
  obtain ⟨xb, hxb⟩ : ∃ xb, xb = w.heap.size := ⟨_, rfl⟩
  have HXB := Lib.hid hxb
  have HP := Lib.hid h
  have HAL := Lib.hid hal
  have x0' := hx.cell 0 rfl
  rw [← hxb] at hx
  have HX := Lib.hid hx
  have HX2 : Hid (¬ T xb ∧ ¬ M xb ∧ ¬ S xb) := Lib.hid (by
    rw [hxb]
    exact ⟨fun hT => Nat.lt_irrefl _ (h.di.bnd _ hT), fun hM => Nat.lt_irrefl _ (h.ri.bnd _ (.inl hM)), fun hS => Nat.lt_irrefl _ (h.ri.bnd _ (.inr hS))⟩)
  have P1 := Lib.hid (diskSyncC hp.di hcD)
  clear h hal hx hxb
  go_enter Tryd.func22, Tryd.ntmps22
  go_wp2_with fail
  refine P1.out.mono ?_
  rintro e w2 ⟨rfl, hd2, hm2⟩
  obtain ⟨hp2, _⟩ := HP.out.second HAL.out ⟨hd2, hm2⟩
  obtain ⟨A, c, L, B, cu, U, hr⟩ := hp2.ri
  have R1 := Lib.hid (refSync hr hcE)
  have H2 := Lib.hid (⟨hd2, hm2⟩ : _ ∧ _)
  clear hd2 hm2 hp2 hr P1 x0' hp hrb
  go_wp2_with fail
  refine R1.out.mono ?_
  rintro e w3 ⟨rfl, hr3, hm3⟩
  have HF := Lib.hid (HP.out.fin HAL.out H2.out ⟨hr3, hm3⟩)
  clear hr3 hm3 R1 H2
  go_wp2_with fail
  go_ret
  exact ⟨_, rfl, Lib.hid (beq_codes rfl fun e => by rw [e]), HF.out⟩

set_option maxRecDepth 20000 in
set_option maxHeartbeats 8000000 in
theorem lawAct1 (name : Nm) (n : Int) (data : List UInt8) (Y : Option Addr) (cy : Nat) (mask : Nat) (h : Pair T M S w d D g E) (hY : RB w Y data) (hYM : 0 < data.length → ∀ b, Y.map (·.block) = some b → ¬ T b ∧ ¬ M b) (hcD : D.cnt ≤ 1000000) (hcE : E.cnt ≤ 1000000) (hs : name.length ≤ 9223372036854775807) (hn : -9223372036854775808 ≤ n ∧ n ≤ 9223372036854775807) (hdl : data.length ≤ 140737488351232) (hm : mask < 18446744073709551616) : Calls Tryd.prog 22 #[.pointer (some ⟨d, 0, none⟩), .pointer (some ⟨g, 0, none⟩), .agg #[.int .i64 1, .string ⟨name.toArray⟩, .int .i64 n, .slice Y data.length cy, .int .u64 (mask : Int)]] w (ActEnd T M S w d D g E (actD D 1 name n data mask) (actD E 1 name n data mask)) := by
  have hal : Below w.heap.size w (w.alloc (.cells #[.int .i64 1, .string ⟨name.toArray⟩, .int .i64 n, .slice Y data.length cy, .int .u64 (mask : Int)] 26)) := (Below.refl _ _).alloc (Nat.le_refl _) _
  have hx := Blk.new w #[.int .i64 1, .string ⟨name.toArray⟩, .int .i64 n, .slice Y data.length cy, .int .u64 (mask : Int)] 26
  have hp := h.below hal
  have hrb := hY.below hal
  obtain ⟨xb, hxb⟩ : ∃ xb, xb = w.heap.size := ⟨_, rfl⟩
  have HXB := Lib.hid hxb
  have HP := Lib.hid h
  have HAL := Lib.hid hal
  have x0' := hx.cell 0 rfl
  rw [← hxb] at hx
  have HX := Lib.hid hx
  have HX2 : Hid (¬ T xb ∧ ¬ M xb ∧ ¬ S xb) := Lib.hid (by
    rw [hxb]
    exact ⟨fun hT => Nat.lt_irrefl _ (h.di.bnd _ hT), fun hM => Nat.lt_irrefl _ (h.ri.bnd _ (.inl hM)), fun hS => Nat.lt_irrefl _ (h.ri.bnd _ (.inr hS))⟩)
  clear h hal hx hxb
  go_enter Tryd.func22, Tryd.ntmps22
  go_wp2_with fail
  rw [← HXB.out]
  generalize w.alloc (.cells #[.int .i64 1, .string ⟨name.toArray⟩, .int .i64 n, .slice Y data.length cy, .int .u64 (mask : Int)] 26) = w1 at *
  have x0 := HX.out.cell 0 rfl
  clear x0'
  go_wp2_with fail
  refine wp_region_planE_gen (by kernel_rfl) [(0, none), (1, none), (2, none), (3, none), (4, none), (6, none), (7, none), (10, none), (11, none), (12, none), (13, none), (14, none), (15, none), (16, none), (17, none), (5, some []), (8, some [7]), (9, some [0, 2, 4]), (18, some [10, 17]), (19, none), (20, none)] (by kernel_rfl) (by kernel_rfl) (by decide) ?_
  intro wq hwq
  have hbq : Below w1.heap.size w1 wq := by rw [hwq]; exact (Below.refl _ _).drew
  have hBq := HAL.out.trans (hbq.mono HAL.out.size)
  have HXq := Lib.hid (HX.out.kept hbq)
  have y1 := HXq.out.cell 1 rfl
  have y2 := HXq.out.cell 2 rfl
  have y3 := HXq.out.cell 3 rfl
  clear hwq hbq HX x0 hp hrb
  iterate 2 (refine planE_pure (v := ?_) rfl (by rfl) (fun w' => ?_) ?_; rotate_left; (focus (simp only [List.getElem_toArray, List.getElem_cons_succ, List.getElem_cons_zero]; go_simp; first | with_reducible rfl | (simp (disch := omega) only [if_pos, if_neg, dif_pos, Result.andThen_ok]; try with_reducible rfl) | skip)); try simp only [List.getElem_toArray, List.getElem_cons_succ, List.getElem_cons_zero, Act.put, List.setIfInBounds_toArray, List.set_cons_zero, List.set_cons_succ])
  refine planE_cells (v := ?_) [(⟨xb, 1, none⟩, .string ⟨name.toArray⟩)] (by simp; and_intros <;> assumption) rfl (by rfl) (fun w' hw' => ?_) ?_; rotate_left; (focus (simp only [List.forall_mem_cons, List.not_mem_nil, false_imp_iff, implies_true, and_true] at hw'; simp only [List.getElem_toArray, List.getElem_cons_succ, List.getElem_cons_zero]; go_simp; first | with_reducible rfl | (simp (disch := omega) only [if_pos, if_neg, dif_pos, Result.andThen_ok]; try with_reducible rfl) | skip)); try simp only [List.getElem_toArray, List.getElem_cons_succ, List.getElem_cons_zero, Act.put, List.setIfInBounds_toArray, List.set_cons_zero, List.set_cons_succ]
  iterate 1 (refine planE_pure (v := ?_) rfl (by rfl) (fun w' => ?_) ?_; rotate_left; (focus (simp only [List.getElem_toArray, List.getElem_cons_succ, List.getElem_cons_zero]; go_simp; first | with_reducible rfl | (simp (disch := omega) only [if_pos, if_neg, dif_pos, Result.andThen_ok]; try with_reducible rfl) | skip)); try simp only [List.getElem_toArray, List.getElem_cons_succ, List.getElem_cons_zero, Act.put, List.setIfInBounds_toArray, List.set_cons_zero, List.set_cons_succ])
  refine planE_cells (v := ?_) [(⟨xb, 2, none⟩, .int .i64 n)] (by simp; and_intros <;> assumption) rfl (by rfl) (fun w' hw' => ?_) ?_; rotate_left; (focus (simp only [List.forall_mem_cons, List.not_mem_nil, false_imp_iff, implies_true, and_true] at hw'; simp only [List.getElem_toArray, List.getElem_cons_succ, List.getElem_cons_zero]; go_simp; first | with_reducible rfl | (simp (disch := omega) only [if_pos, if_neg, dif_pos, Result.andThen_ok]; try with_reducible rfl) | skip)); try simp only [List.getElem_toArray, List.getElem_cons_succ, List.getElem_cons_zero, Act.put, List.setIfInBounds_toArray, List.set_cons_zero, List.set_cons_succ]
  iterate 1 (refine planE_pure (v := ?_) rfl (by rfl) (fun w' => ?_) ?_; rotate_left; (focus (simp only [List.getElem_toArray, List.getElem_cons_succ, List.getElem_cons_zero]; go_simp; first | with_reducible rfl | (simp (disch := omega) only [if_pos, if_neg, dif_pos, Result.andThen_ok]; try with_reducible rfl) | skip)); try simp only [List.getElem_toArray, List.getElem_cons_succ, List.getElem_cons_zero, Act.put, List.setIfInBounds_toArray, List.set_cons_zero, List.set_cons_succ])
  refine planE_cells (v := ?_) [(⟨xb, 3, none⟩, .slice Y data.length cy)] (by simp; and_intros <;> assumption) rfl (by rfl) (fun w' hw' => ?_) ?_; rotate_left; (focus (simp only [List.forall_mem_cons, List.not_mem_nil, false_imp_iff, implies_true, and_true] at hw'; simp only [List.getElem_toArray, List.getElem_cons_succ, List.getElem_cons_zero]; go_simp; first | with_reducible rfl | (simp (disch := omega) only [if_pos, if_neg, dif_pos, Result.andThen_ok]; try with_reducible rfl) | skip)); try simp only [List.getElem_toArray, List.getElem_cons_succ, List.getElem_cons_zero, Act.put, List.setIfInBounds_toArray, List.set_cons_zero, List.set_cons_succ]
  iterate 2 (refine planE_pure (v := ?_) rfl (by rfl) (fun w' => ?_) ?_; rotate_left; (focus (simp only [List.getElem_toArray, List.getElem_cons_succ, List.getElem_cons_zero]; go_simp; first | with_reducible rfl | (simp (disch := omega) only [if_pos, if_neg, dif_pos, Result.andThen_ok]; try with_reducible rfl) | skip)); try simp only [List.getElem_toArray, List.getElem_cons_succ, List.getElem_cons_zero, Act.put, List.setIfInBounds_toArray, List.set_cons_zero, List.set_cons_succ])
  refine planE_cells (v := ?_) [(⟨xb, 1, none⟩, .string ⟨name.toArray⟩)] (by simp; and_intros <;> assumption) rfl (by rfl) (fun w' hw' => ?_) ?_; rotate_left; (focus (simp only [List.forall_mem_cons, List.not_mem_nil, false_imp_iff, implies_true, and_true] at hw'; simp only [List.getElem_toArray, List.getElem_cons_succ, List.getElem_cons_zero]; go_simp; first | with_reducible rfl | (simp (disch := omega) only [if_pos, if_neg, dif_pos, Result.andThen_ok]; try with_reducible rfl) | skip)); try simp only [List.getElem_toArray, List.getElem_cons_succ, List.getElem_cons_zero, Act.put, List.setIfInBounds_toArray, List.set_cons_zero, List.set_cons_succ]
  iterate 1 (refine planE_pure (v := ?_) rfl (by rfl) (fun w' => ?_) ?_; rotate_left; (focus (simp only [List.getElem_toArray, List.getElem_cons_succ, List.getElem_cons_zero]; go_simp; first | with_reducible rfl | (simp (disch := omega) only [if_pos, if_neg, dif_pos, Result.andThen_ok]; try with_reducible rfl) | skip)); try simp only [List.getElem_toArray, List.getElem_cons_succ, List.getElem_cons_zero, Act.put, List.setIfInBounds_toArray, List.set_cons_zero, List.set_cons_succ])
  refine planE_cells (v := ?_) [(⟨xb, 2, none⟩, .int .i64 n)] (by simp; and_intros <;> assumption) rfl (by rfl) (fun w' hw' => ?_) ?_; rotate_left; (focus (simp only [List.forall_mem_cons, List.not_mem_nil, false_imp_iff, implies_true, and_true] at hw'; simp only [List.getElem_toArray, List.getElem_cons_succ, List.getElem_cons_zero]; go_simp; first | with_reducible rfl | (simp (disch := omega) only [if_pos, if_neg, dif_pos, Result.andThen_ok]; try with_reducible rfl) | skip)); try simp only [List.getElem_toArray, List.getElem_cons_succ, List.getElem_cons_zero, Act.put, List.setIfInBounds_toArray, List.set_cons_zero, List.set_cons_succ]
  iterate 1 (refine planE_pure (v := ?_) rfl (by rfl) (fun w' => ?_) ?_; rotate_left; (focus (simp only [List.getElem_toArray, List.getElem_cons_succ, List.getElem_cons_zero]; go_simp; first | with_reducible rfl | (simp (disch := omega) only [if_pos, if_neg, dif_pos, Result.andThen_ok]; try with_reducible rfl) | skip)); try simp only [List.getElem_toArray, List.getElem_cons_succ, List.getElem_cons_zero, Act.put, List.setIfInBounds_toArray, List.set_cons_zero, List.set_cons_succ])
  refine planE_cells (v := ?_) [(⟨xb, 3, none⟩, .slice Y data.length cy)] (by simp; and_intros <;> assumption) rfl (by rfl) (fun w' hw' => ?_) ?_; rotate_left; (focus (simp only [List.forall_mem_cons, List.not_mem_nil, false_imp_iff, implies_true, and_true] at hw'; simp only [List.getElem_toArray, List.getElem_cons_succ, List.getElem_cons_zero]; go_simp; first | with_reducible rfl | (simp (disch := omega) only [if_pos, if_neg, dif_pos, Result.andThen_ok]; try with_reducible rfl) | skip)); try simp only [List.getElem_toArray, List.getElem_cons_succ, List.getElem_cons_zero, Act.put, List.setIfInBounds_toArray, List.set_cons_zero, List.set_cons_succ]
  iterate 1 (refine planE_pure (v := ?_) rfl (by rfl) (fun w' => ?_) ?_; rotate_left; (focus (simp only [List.getElem_toArray, List.getElem_cons_succ, List.getElem_cons_zero]; go_simp; first | with_reducible rfl | (simp (disch := omega) only [if_pos, if_neg, dif_pos, Result.andThen_ok]; try with_reducible rfl) | skip)); try simp only [List.getElem_toArray, List.getElem_cons_succ, List.getElem_cons_zero, Act.put, List.setIfInBounds_toArray, List.set_cons_zero, List.set_cons_succ])
  refine planE_eff rfl (by rfl) (fun K hK => ?_)
  go_simp
  have hb2 : Below wq.heap.size wq (wq.alloc (.cells #[] 5)) := (Below.refl _ _).alloc (Nat.le_refl _) _
  have hB2 := hBq.trans (hb2.mono hBq.size)
  have hO2 := OB.made0 wq (Nat.le_refl wq.heap.size)
  have hX2 := HXq.out.kept hb2
  obtain ⟨eb, heb⟩ : ∃ eb, eb = wq.heap.size := ⟨_, rfl⟩
  have hse : w.heap.size ≤ eb := by rw [heb]; exact hBq.size
  have hxe : xb < eb := by rw [heb]; exact HXq.out.lt
  have hes : eb ≤ (wq.alloc (.cells #[] 5)).heap.size := by rw [heb]; exact hb2.size
  rw [← heb] at hO2 ⊢
  generalize wq.alloc (.cells #[] 5) = w2 at *
  clear y1 y2 y3 hb2 heb HXq hBq
  have y1 := hX2.cell 1 rfl
  have y2 := hX2.cell 2 rfl
  have y3 := hX2.cell 3 rfl
  refine hK _ _ (by simp [owed, left] <;> (and_intros <;> first | trivial | assumption)) ?_
  clear hK K
  try simp only [List.getElem_toArray, List.getElem_cons_succ, List.getElem_cons_zero, Act.put, List.setIfInBounds_toArray, List.set_cons_zero, List.set_cons_succ]
  refine planE_eff rfl (by rfl) (fun K hK => ?_)
  refine op_appendB w2 (.tmp 22) (.tmp 24) (by rfl) eb (some ⟨eb, 0, none⟩) Y 0 cy [] data (by rfl) (by rfl) hO2 (hY.below hB2) (by simp; omega) hes ?_
  intro d8 A8 c8 w3 hd8 hd81 hd82 ho8 hg8
  have hB3 := hB2.grown hg8 hB2.size (fun b hb => by simp [Value.ownBlock] at hb; omega)
  have hX3 := hX2.grown hg8 (fun e => by rw [own_blk] at e; injection e with e; simp at e; omega)
  have HE8 : Hid (d8 = data) := Lib.hid (by simpa using hd8.out)
  have HO8 := Lib.hid ho8
  have hdl8 : d8.length ≤ 140737488355328 := by simp at hd81; omega
  clear y1 y2 y3 hd8 hd81 hd82 ho8 hg8 hB2 hO2 hX2 hes
  have y1 := hX3.cell 1 rfl
  have y2 := hX3.cell 2 rfl
  have y3 := hX3.cell 3 rfl
  refine hK _ _ (by simp [owed, left] <;> (and_intros <;> first | trivial | assumption)) ?_
  clear hK K
  try simp only [List.getElem_toArray, List.getElem_cons_succ, List.getElem_cons_zero, Act.put, List.setIfInBounds_toArray, List.set_cons_zero, List.set_cons_succ]
  refine planE_eff rfl (by rfl) (fun K hK => ?_)
  go_simp
  refine (diskPutC name n d8 A8 c8 (HP.out.below hB3).di HO8.out.rb (fun _ b hb hT => by have := (HO8.out.blk_lt b hb).1; have := HP.out.di.bnd b hT; omega) hcD hs hn hdl8).mono ?_
  rintro e w4 ⟨rfl, hd4, hm4⟩
  have H2 := Lib.hid (⟨hd4, hm4⟩ : _ ∧ _)
  have hX4 := hX3.mods hm4 HX2.out.1
  have HYr := Lib.hid ((hY.below hB3).mods hm4 (fun h0 b hb => (hYM h0 b hb).1))
  obtain ⟨hp4, _⟩ := HP.out.second hB3 ⟨hd4, hm4⟩
  have HR4 := Lib.hid hp4.ri
  clear y1 y2 y3 hd4 hm4 hX3 hp4 HO8
  have y1 := hX4.cell 1 rfl
  have y2 := hX4.cell 2 rfl
  have y3 := hX4.cell 3 rfl
  refine hK _ _ (by simp [owed, left] <;> (and_intros <;> first | trivial | assumption)) ?_
  clear hK K
  try simp only [List.getElem_toArray, List.getElem_cons_succ, List.getElem_cons_zero, Act.put, List.setIfInBounds_toArray, List.set_cons_zero, List.set_cons_succ]
  refine planE_eff rfl (by rfl) (fun K hK => ?_)
  go_simp
  refine (refChange 1 name n data Y cy HR4.out HYr.out (fun h0 b hb => (hYM h0 b hb).2) hcE hs hn (by omega) (.inl rfl) (fun h => absurd rfl h)).mono ?_
  rintro e w5 ⟨rfl, hr5, hm5⟩
  have HF0 := Lib.hid (HP.out.fin hB3 H2.out ⟨hr5, hm5⟩)
  have hX5 := hX4.mods hm5 HX2.out.2.1
  clear y1 y2 y3 hr5 hm5 hX4 HYr HR4 H2
  have y1 := hX5.cell 1 rfl
  have y2 := hX5.cell 2 rfl
  have y3 := hX5.cell 3 rfl
  refine hK _ _ (by simp [owed, left] <;> (and_intros <;> first | trivial | assumption)) ?_
  clear hK K
  try simp only [List.getElem_toArray, List.getElem_cons_succ, List.getElem_cons_zero, Act.put, List.setIfInBounds_toArray, List.set_cons_zero, List.set_cons_succ]
  iterate 2 (refine planE_pure (v := ?_) rfl (by rfl) (fun w' => ?_) ?_; rotate_left; (focus (simp only [List.getElem_toArray, List.getElem_cons_succ, List.getElem_cons_zero]; go_simp; first | with_reducible rfl | (simp (disch := omega) only [if_pos, if_neg, dif_pos, Result.andThen_ok]; try with_reducible rfl) | skip)); try simp only [List.getElem_toArray, List.getElem_cons_succ, List.getElem_cons_zero, Act.put, List.setIfInBounds_toArray, List.set_cons_zero, List.set_cons_succ])
  refine planE_end ?_
  rw [HE8.out] at HF0 ⊢
  have HF : Hid (Pair2 T M S w d (actD D 1 name n data mask) g (actD E 1 name n data mask) w5) := HF0
  clear y1 y2 y3 hX5 HF0 HE8
  go_wp2_with fail
  go_ret
  exact ⟨_, rfl, Lib.hid (beq_codes rfl fun e => by rw [e]), HF.out⟩

set_option maxRecDepth 20000 in
set_option maxHeartbeats 8000000 in
theorem lawAct2 (name : Nm) (n : Int) (data : List UInt8) (Y : Option Addr) (cy : Nat) (mask : Nat) (h : Pair T M S w d D g E) (hY : RB w Y data) (hYM : 0 < data.length → ∀ b, Y.map (·.block) = some b → ¬ T b ∧ ¬ M b) (hcD : D.cnt ≤ 1000000) (hcE : E.cnt ≤ 1000000) (hs : name.length ≤ 9223372036854775807) (hn : -9223372036854775808 ≤ n ∧ n ≤ 9223372036854775807) (hdl : data.length ≤ 140737488351232) (hm : mask < 18446744073709551616) : Calls Tryd.prog 22 #[.pointer (some ⟨d, 0, none⟩), .pointer (some ⟨g, 0, none⟩), .agg #[.int .i64 2, .string ⟨name.toArray⟩, .int .i64 n, .slice Y data.length cy, .int .u64 (mask : Int)]] w (ActEnd T M S w d D g E (actD D 2 name n data mask) (actD E 2 name n data mask)) := by
  have hal : Below w.heap.size w (w.alloc (.cells #[.int .i64 2, .string ⟨name.toArray⟩, .int .i64 n, .slice Y data.length cy, .int .u64 (mask : Int)] 26)) := (Below.refl _ _).alloc (Nat.le_refl _) _
  have hx := Blk.new w #[.int .i64 2, .string ⟨name.toArray⟩, .int .i64 n, .slice Y data.length cy, .int .u64 (mask : Int)] 26
  have hp := h.below hal
  have hrb := hY.below hal
  obtain ⟨xb, hxb⟩ : ∃ xb, xb = w.heap.size := ⟨_, rfl⟩
  have HXB := Lib.hid hxb
  have HP := Lib.hid h
  have HAL := Lib.hid hal
  have x0' := hx.cell 0 rfl
  rw [← hxb] at hx
  have HX := Lib.hid hx
  have HX2 : Hid (¬ T xb ∧ ¬ M xb ∧ ¬ S xb) := Lib.hid (by
    rw [hxb]
    exact ⟨fun hT => Nat.lt_irrefl _ (h.di.bnd _ hT), fun hM => Nat.lt_irrefl _ (h.ri.bnd _ (.inl hM)), fun hS => Nat.lt_irrefl _ (h.ri.bnd _ (.inr hS))⟩)
  clear h hal hx hxb
  go_enter Tryd.func22, Tryd.ntmps22
  go_wp2_with fail
  rw [← HXB.out]
  generalize w.alloc (.cells #[.int .i64 2, .string ⟨name.toArray⟩, .int .i64 n, .slice Y data.length cy, .int .u64 (mask : Int)] 26) = w1 at *
  have x0 := HX.out.cell 0 rfl
  clear x0'
  go_wp2_with fail
  refine wp_region_planE_gen (by kernel_rfl) [(0, none), (1, none), (2, none), (3, none), (4, none), (6, none), (7, none), (8, none), (9, none), (10, none), (11, none), (5, some [0, 2, 4]), (12, some [6, 11]), (13, none), (14, none)] (by kernel_rfl) (by kernel_rfl) (by decide) ?_
  intro wq hwq
  have hbq : Below w1.heap.size w1 wq := by rw [hwq]; exact (Below.refl _ _).drew
  have hBq := HAL.out.trans (hbq.mono HAL.out.size)
  have HXq := Lib.hid (HX.out.kept hbq)
  have y1 := HXq.out.cell 1 rfl
  have y2 := HXq.out.cell 2 rfl
  clear hwq hbq HX x0 hp hrb
  iterate 2 (refine planE_pure (v := ?_) rfl (by rfl) (fun w' => ?_) ?_; rotate_left; (focus (simp only [List.getElem_toArray, List.getElem_cons_succ, List.getElem_cons_zero]; go_simp; first | with_reducible rfl | (simp (disch := omega) only [if_pos, if_neg, dif_pos, Result.andThen_ok]; try with_reducible rfl) | skip)); try simp only [List.getElem_toArray, List.getElem_cons_succ, List.getElem_cons_zero, Act.put, List.setIfInBounds_toArray, List.set_cons_zero, List.set_cons_succ])
  refine planE_cells (v := ?_) [(⟨xb, 1, none⟩, .string ⟨name.toArray⟩)] (by simp; and_intros <;> assumption) rfl (by rfl) (fun w' hw' => ?_) ?_; rotate_left; (focus (simp only [List.forall_mem_cons, List.not_mem_nil, false_imp_iff, implies_true, and_true] at hw'; simp only [List.getElem_toArray, List.getElem_cons_succ, List.getElem_cons_zero]; go_simp; first | with_reducible rfl | (simp (disch := omega) only [if_pos, if_neg, dif_pos, Result.andThen_ok]; try with_reducible rfl) | skip)); try simp only [List.getElem_toArray, List.getElem_cons_succ, List.getElem_cons_zero, Act.put, List.setIfInBounds_toArray, List.set_cons_zero, List.set_cons_succ]
  iterate 1 (refine planE_pure (v := ?_) rfl (by rfl) (fun w' => ?_) ?_; rotate_left; (focus (simp only [List.getElem_toArray, List.getElem_cons_succ, List.getElem_cons_zero]; go_simp; first | with_reducible rfl | (simp (disch := omega) only [if_pos, if_neg, dif_pos, Result.andThen_ok]; try with_reducible rfl) | skip)); try simp only [List.getElem_toArray, List.getElem_cons_succ, List.getElem_cons_zero, Act.put, List.setIfInBounds_toArray, List.set_cons_zero, List.set_cons_succ])
  refine planE_cells (v := ?_) [(⟨xb, 2, none⟩, .int .i64 n)] (by simp; and_intros <;> assumption) rfl (by rfl) (fun w' hw' => ?_) ?_; rotate_left; (focus (simp only [List.forall_mem_cons, List.not_mem_nil, false_imp_iff, implies_true, and_true] at hw'; simp only [List.getElem_toArray, List.getElem_cons_succ, List.getElem_cons_zero]; go_simp; first | with_reducible rfl | (simp (disch := omega) only [if_pos, if_neg, dif_pos, Result.andThen_ok]; try with_reducible rfl) | skip)); try simp only [List.getElem_toArray, List.getElem_cons_succ, List.getElem_cons_zero, Act.put, List.setIfInBounds_toArray, List.set_cons_zero, List.set_cons_succ]
  iterate 2 (refine planE_pure (v := ?_) rfl (by rfl) (fun w' => ?_) ?_; rotate_left; (focus (simp only [List.getElem_toArray, List.getElem_cons_succ, List.getElem_cons_zero]; go_simp; first | with_reducible rfl | (simp (disch := omega) only [if_pos, if_neg, dif_pos, Result.andThen_ok]; try with_reducible rfl) | skip)); try simp only [List.getElem_toArray, List.getElem_cons_succ, List.getElem_cons_zero, Act.put, List.setIfInBounds_toArray, List.set_cons_zero, List.set_cons_succ])
  refine planE_cells (v := ?_) [(⟨xb, 1, none⟩, .string ⟨name.toArray⟩)] (by simp; and_intros <;> assumption) rfl (by rfl) (fun w' hw' => ?_) ?_; rotate_left; (focus (simp only [List.forall_mem_cons, List.not_mem_nil, false_imp_iff, implies_true, and_true] at hw'; simp only [List.getElem_toArray, List.getElem_cons_succ, List.getElem_cons_zero]; go_simp; first | with_reducible rfl | (simp (disch := omega) only [if_pos, if_neg, dif_pos, Result.andThen_ok]; try with_reducible rfl) | skip)); try simp only [List.getElem_toArray, List.getElem_cons_succ, List.getElem_cons_zero, Act.put, List.setIfInBounds_toArray, List.set_cons_zero, List.set_cons_succ]
  iterate 1 (refine planE_pure (v := ?_) rfl (by rfl) (fun w' => ?_) ?_; rotate_left; (focus (simp only [List.getElem_toArray, List.getElem_cons_succ, List.getElem_cons_zero]; go_simp; first | with_reducible rfl | (simp (disch := omega) only [if_pos, if_neg, dif_pos, Result.andThen_ok]; try with_reducible rfl) | skip)); try simp only [List.getElem_toArray, List.getElem_cons_succ, List.getElem_cons_zero, Act.put, List.setIfInBounds_toArray, List.set_cons_zero, List.set_cons_succ])
  refine planE_cells (v := ?_) [(⟨xb, 2, none⟩, .int .i64 n)] (by simp; and_intros <;> assumption) rfl (by rfl) (fun w' hw' => ?_) ?_; rotate_left; (focus (simp only [List.forall_mem_cons, List.not_mem_nil, false_imp_iff, implies_true, and_true] at hw'; simp only [List.getElem_toArray, List.getElem_cons_succ, List.getElem_cons_zero]; go_simp; first | with_reducible rfl | (simp (disch := omega) only [if_pos, if_neg, dif_pos, Result.andThen_ok]; try with_reducible rfl) | skip)); try simp only [List.getElem_toArray, List.getElem_cons_succ, List.getElem_cons_zero, Act.put, List.setIfInBounds_toArray, List.set_cons_zero, List.set_cons_succ]
  iterate 1 (refine planE_pure (v := ?_) rfl (by rfl) (fun w' => ?_) ?_; rotate_left; (focus (simp only [List.getElem_toArray, List.getElem_cons_succ, List.getElem_cons_zero]; go_simp; first | with_reducible rfl | (simp (disch := omega) only [if_pos, if_neg, dif_pos, Result.andThen_ok]; try with_reducible rfl) | skip)); try simp only [List.getElem_toArray, List.getElem_cons_succ, List.getElem_cons_zero, Act.put, List.setIfInBounds_toArray, List.set_cons_zero, List.set_cons_succ])
  refine planE_eff rfl (by rfl) (fun K hK => ?_)
  go_simp
  refine (diskCutC name n (HP.out.below hBq).di hcD hs hn).mono ?_
  rintro e w4 ⟨rfl, hd4, hm4⟩
  have H2 := Lib.hid (⟨hd4, hm4⟩ : _ ∧ _)
  have hX4 := HXq.out.mods hm4 HX2.out.1
  obtain ⟨hp4, _⟩ := HP.out.second hBq ⟨hd4, hm4⟩
  have HR4 := Lib.hid hp4.ri
  clear y1 y2 hd4 hm4 hp4 HXq
  have y1 := hX4.cell 1 rfl
  have y2 := hX4.cell 2 rfl
  refine hK _ _ (by simp [owed, left] <;> (and_intros <;> first | trivial | assumption)) ?_
  clear hK K
  try simp only [List.getElem_toArray, List.getElem_cons_succ, List.getElem_cons_zero, Act.put, List.setIfInBounds_toArray, List.set_cons_zero, List.set_cons_succ]
  refine planE_eff rfl (by rfl) (fun K hK => ?_)
  go_simp
  refine (refChange 2 name n [] none 0 HR4.out RB.nil (fun h => absurd h (by simp)) hcE hs hn (by simp) (.inr (.inl rfl)) (fun _ => rfl)).mono ?_
  rintro e w5 ⟨rfl, hr5, hm5⟩
  have HF0 := Lib.hid (HP.out.fin hBq H2.out ⟨hr5, hm5⟩)
  have hX5 := hX4.mods hm5 HX2.out.2.1
  clear y1 y2 hr5 hm5 hX4 HR4 H2
  have y1 := hX5.cell 1 rfl
  have y2 := hX5.cell 2 rfl
  refine hK _ _ (by simp [owed, left] <;> (and_intros <;> first | trivial | assumption)) ?_
  clear hK K
  try simp only [List.getElem_toArray, List.getElem_cons_succ, List.getElem_cons_zero, Act.put, List.setIfInBounds_toArray, List.set_cons_zero, List.set_cons_succ]
  iterate 2 (refine planE_pure (v := ?_) rfl (by rfl) (fun w' => ?_) ?_; rotate_left; (focus (simp only [List.getElem_toArray, List.getElem_cons_succ, List.getElem_cons_zero]; go_simp; first | with_reducible rfl | (simp (disch := omega) only [if_pos, if_neg, dif_pos, Result.andThen_ok]; try with_reducible rfl) | skip)); try simp only [List.getElem_toArray, List.getElem_cons_succ, List.getElem_cons_zero, Act.put, List.setIfInBounds_toArray, List.set_cons_zero, List.set_cons_succ])
  refine planE_end ?_
  have HF : Hid (Pair2 T M S w d (actD D 2 name n data mask) g (actD E 2 name n data mask) w5) := HF0
  clear y1 y2 hX5 HF0
  go_wp2_with fail
  go_ret
  exact ⟨_, rfl, Lib.hid (beq_codes rfl fun e => by rw [e]), HF.out⟩

set_option maxRecDepth 20000 in
set_option maxHeartbeats 8000000 in
theorem lawAct3 (name : Nm) (n : Int) (data : List UInt8) (Y : Option Addr) (cy : Nat) (mask : Nat) (h : Pair T M S w d D g E) (hY : RB w Y data) (hYM : 0 < data.length → ∀ b, Y.map (·.block) = some b → ¬ T b ∧ ¬ M b) (hcD : D.cnt ≤ 1000000) (hcE : E.cnt ≤ 1000000) (hs : name.length ≤ 9223372036854775807) (hn : -9223372036854775808 ≤ n ∧ n ≤ 9223372036854775807) (hdl : data.length ≤ 140737488351232) (hm : mask < 18446744073709551616) : Calls Tryd.prog 22 #[.pointer (some ⟨d, 0, none⟩), .pointer (some ⟨g, 0, none⟩), .agg #[.int .i64 3, .string ⟨name.toArray⟩, .int .i64 n, .slice Y data.length cy, .int .u64 (mask : Int)]] w (ActEnd T M S w d D g E (actD D 3 name n data mask) (actD E 3 name n data mask)) := by
  have hal : Below w.heap.size w (w.alloc (.cells #[.int .i64 3, .string ⟨name.toArray⟩, .int .i64 n, .slice Y data.length cy, .int .u64 (mask : Int)] 26)) := (Below.refl _ _).alloc (Nat.le_refl _) _
  have hx := Blk.new w #[.int .i64 3, .string ⟨name.toArray⟩, .int .i64 n, .slice Y data.length cy, .int .u64 (mask : Int)] 26
  have hp := h.below hal
  have hrb := hY.below hal
  obtain ⟨xb, hxb⟩ : ∃ xb, xb = w.heap.size := ⟨_, rfl⟩
  have HXB := Lib.hid hxb
  have HP := Lib.hid h
  have HAL := Lib.hid hal
  have x0' := hx.cell 0 rfl
  rw [← hxb] at hx
  have HX := Lib.hid hx
  have HX2 : Hid (¬ T xb ∧ ¬ M xb ∧ ¬ S xb) := Lib.hid (by
    rw [hxb]
    exact ⟨fun hT => Nat.lt_irrefl _ (h.di.bnd _ hT), fun hM => Nat.lt_irrefl _ (h.ri.bnd _ (.inl hM)), fun hS => Nat.lt_irrefl _ (h.ri.bnd _ (.inr hS))⟩)
  clear h hal hx hxb
  go_enter Tryd.func22, Tryd.ntmps22
  go_wp2_with fail
  rw [← HXB.out]
  generalize w.alloc (.cells #[.int .i64 3, .string ⟨name.toArray⟩, .int .i64 n, .slice Y data.length cy, .int .u64 (mask : Int)] 26) = w1 at *
  have x0 := HX.out.cell 0 rfl
  clear x0'
  go_wp2_with fail
  refine wp_region_planE_gen (by kernel_rfl) [(0, none), (1, none), (2, none), (4, none), (5, none), (6, none), (7, none), (3, some [0, 2]), (8, some [4, 7]), (9, none), (10, none)] (by kernel_rfl) (by kernel_rfl) (by decide) ?_
  intro wq hwq
  have hbq : Below w1.heap.size w1 wq := by rw [hwq]; exact (Below.refl _ _).drew
  have hBq := HAL.out.trans (hbq.mono HAL.out.size)
  have HXq := Lib.hid (HX.out.kept hbq)
  have y1 := HXq.out.cell 1 rfl
  have y2 := HXq.out.cell 2 rfl
  clear hwq hbq HX x0 hp hrb
  iterate 2 (refine planE_pure (v := ?_) rfl (by rfl) (fun w' => ?_) ?_; rotate_left; (focus (simp only [List.getElem_toArray, List.getElem_cons_succ, List.getElem_cons_zero]; go_simp; first | with_reducible rfl | (simp (disch := omega) only [if_pos, if_neg, dif_pos, Result.andThen_ok]; try with_reducible rfl) | skip)); try simp only [List.getElem_toArray, List.getElem_cons_succ, List.getElem_cons_zero, Act.put, List.setIfInBounds_toArray, List.set_cons_zero, List.set_cons_succ])
  refine planE_cells (v := ?_) [(⟨xb, 1, none⟩, .string ⟨name.toArray⟩)] (by simp; and_intros <;> assumption) rfl (by rfl) (fun w' hw' => ?_) ?_; rotate_left; (focus (simp only [List.forall_mem_cons, List.not_mem_nil, false_imp_iff, implies_true, and_true] at hw'; simp only [List.getElem_toArray, List.getElem_cons_succ, List.getElem_cons_zero]; go_simp; first | with_reducible rfl | (simp (disch := omega) only [if_pos, if_neg, dif_pos, Result.andThen_ok]; try with_reducible rfl) | skip)); try simp only [List.getElem_toArray, List.getElem_cons_succ, List.getElem_cons_zero, Act.put, List.setIfInBounds_toArray, List.set_cons_zero, List.set_cons_succ]
  iterate 2 (refine planE_pure (v := ?_) rfl (by rfl) (fun w' => ?_) ?_; rotate_left; (focus (simp only [List.getElem_toArray, List.getElem_cons_succ, List.getElem_cons_zero]; go_simp; first | with_reducible rfl | (simp (disch := omega) only [if_pos, if_neg, dif_pos, Result.andThen_ok]; try with_reducible rfl) | skip)); try simp only [List.getElem_toArray, List.getElem_cons_succ, List.getElem_cons_zero, Act.put, List.setIfInBounds_toArray, List.set_cons_zero, List.set_cons_succ])
  refine planE_cells (v := ?_) [(⟨xb, 1, none⟩, .string ⟨name.toArray⟩)] (by simp; and_intros <;> assumption) rfl (by rfl) (fun w' hw' => ?_) ?_; rotate_left; (focus (simp only [List.forall_mem_cons, List.not_mem_nil, false_imp_iff, implies_true, and_true] at hw'; simp only [List.getElem_toArray, List.getElem_cons_succ, List.getElem_cons_zero]; go_simp; first | with_reducible rfl | (simp (disch := omega) only [if_pos, if_neg, dif_pos, Result.andThen_ok]; try with_reducible rfl) | skip)); try simp only [List.getElem_toArray, List.getElem_cons_succ, List.getElem_cons_zero, Act.put, List.setIfInBounds_toArray, List.set_cons_zero, List.set_cons_succ]
  iterate 1 (refine planE_pure (v := ?_) rfl (by rfl) (fun w' => ?_) ?_; rotate_left; (focus (simp only [List.getElem_toArray, List.getElem_cons_succ, List.getElem_cons_zero]; go_simp; first | with_reducible rfl | (simp (disch := omega) only [if_pos, if_neg, dif_pos, Result.andThen_ok]; try with_reducible rfl) | skip)); try simp only [List.getElem_toArray, List.getElem_cons_succ, List.getElem_cons_zero, Act.put, List.setIfInBounds_toArray, List.set_cons_zero, List.set_cons_succ])
  refine planE_eff rfl (by rfl) (fun K hK => ?_)
  go_simp
  refine (diskRemoveC name (HP.out.below hBq).di hcD hs).mono ?_
  rintro e w4 ⟨rfl, hd4, hm4⟩
  have H2 := Lib.hid (⟨hd4, hm4⟩ : _ ∧ _)
  have hX4 := HXq.out.mods hm4 HX2.out.1
  obtain ⟨hp4, _⟩ := HP.out.second hBq ⟨hd4, hm4⟩
  have HR4 := Lib.hid hp4.ri
  clear y1 y2 hd4 hm4 hp4 HXq
  have y1 := hX4.cell 1 rfl
  have y2 := hX4.cell 2 rfl
  refine hK _ _ (by simp [owed, left] <;> (and_intros <;> first | trivial | assumption)) ?_
  clear hK K
  try simp only [List.getElem_toArray, List.getElem_cons_succ, List.getElem_cons_zero, Act.put, List.setIfInBounds_toArray, List.set_cons_zero, List.set_cons_succ]
  refine planE_eff rfl (by rfl) (fun K hK => ?_)
  go_simp
  refine (refChange 3 name 0 [] none 0 HR4.out RB.nil (fun h => absurd h (by simp)) hcE hs (by omega) (by simp) (.inr (.inr rfl)) (fun _ => rfl)).mono ?_
  rintro e w5 ⟨rfl, hr5, hm5⟩
  have HF0 := Lib.hid (HP.out.fin hBq H2.out ⟨hr5, hm5⟩)
  have hX5 := hX4.mods hm5 HX2.out.2.1
  clear y1 y2 hr5 hm5 hX4 HR4 H2
  have y1 := hX5.cell 1 rfl
  have y2 := hX5.cell 2 rfl
  refine hK _ _ (by simp [owed, left] <;> (and_intros <;> first | trivial | assumption)) ?_
  clear hK K
  try simp only [List.getElem_toArray, List.getElem_cons_succ, List.getElem_cons_zero, Act.put, List.setIfInBounds_toArray, List.set_cons_zero, List.set_cons_succ]
  iterate 2 (refine planE_pure (v := ?_) rfl (by rfl) (fun w' => ?_) ?_; rotate_left; (focus (simp only [List.getElem_toArray, List.getElem_cons_succ, List.getElem_cons_zero]; go_simp; first | with_reducible rfl | (simp (disch := omega) only [if_pos, if_neg, dif_pos, Result.andThen_ok]; try with_reducible rfl) | skip)); try simp only [List.getElem_toArray, List.getElem_cons_succ, List.getElem_cons_zero, Act.put, List.setIfInBounds_toArray, List.set_cons_zero, List.set_cons_succ])
  refine planE_end ?_
  have HF : Hid (Pair2 T M S w d (actD D 3 name n data mask) g (actD E 3 name n data mask) w5) := HF0
  clear y1 y2 hX5 HF0
  go_wp2_with fail
  go_ret
  exact ⟨_, rfl, Lib.hid (beq_codes rfl fun e => by rw [e]), HF.out⟩

set_option maxRecDepth 20000 in
set_option maxHeartbeats 8000000 in
theorem lawAct5 (name : Nm) (n : Int) (data : List UInt8) (Y : Option Addr) (cy : Nat) (mask : Nat) (h : Pair T M S w d D g E) (hY : RB w Y data) (hYM : 0 < data.length → ∀ b, Y.map (·.block) = some b → ¬ T b ∧ ¬ M b) (hcD : D.cnt ≤ 1000000) (hcE : E.cnt ≤ 1000000) (hs : name.length ≤ 9223372036854775807) (hn : -9223372036854775808 ≤ n ∧ n ≤ 9223372036854775807) (hdl : data.length ≤ 140737488351232) (hm : mask < 18446744073709551616) : Calls Tryd.prog 22 #[.pointer (some ⟨d, 0, none⟩), .pointer (some ⟨g, 0, none⟩), .agg #[.int .i64 5, .string ⟨name.toArray⟩, .int .i64 n, .slice Y data.length cy, .int .u64 (mask : Int)]] w (ActEnd T M S w d D g E (actD D 5 name n data mask) (actD E 5 name n data mask)) := by
  have hal : Below w.heap.size w (w.alloc (.cells #[.int .i64 5, .string ⟨name.toArray⟩, .int .i64 n, .slice Y data.length cy, .int .u64 (mask : Int)] 26)) := (Below.refl _ _).alloc (Nat.le_refl _) _
  have hx := Blk.new w #[.int .i64 5, .string ⟨name.toArray⟩, .int .i64 n, .slice Y data.length cy, .int .u64 (mask : Int)] 26
  have hp := h.below hal
  have hrb := hY.below hal
  obtain ⟨xb, hxb⟩ : ∃ xb, xb = w.heap.size := ⟨_, rfl⟩
  have HXB := Lib.hid hxb
  have HP := Lib.hid h
  have HAL := Lib.hid hal
  have x0' := hx.cell 0 rfl
  rw [← hxb] at hx
  have HX := Lib.hid hx
  have HX2 : Hid (¬ T xb ∧ ¬ M xb ∧ ¬ S xb) := Lib.hid (by
    rw [hxb]
    exact ⟨fun hT => Nat.lt_irrefl _ (h.di.bnd _ hT), fun hM => Nat.lt_irrefl _ (h.ri.bnd _ (.inl hM)), fun hS => Nat.lt_irrefl _ (h.ri.bnd _ (.inr hS))⟩)
  have P1 := Lib.hid (diskReadC name hp.di hs)
  clear h hal hx hxb
  go_enter Tryd.func22, Tryd.ntmps22
  have x1' : (w.alloc (.cells #[.int .i64 5, .string ⟨name.toArray⟩, .int .i64 n, .slice Y data.length cy, .int .u64 (mask : Int)] 26)).cell? ⟨w.heap.size, 1, none⟩ = some (.string ⟨name.toArray⟩) := by rw [← HXB.out]; exact HX.out.cell 1 rfl
  go_wp2_with fail
  refine P1.out.mono ?_
  rintro e w2 ⟨A1, c1, rfl, ho1, hb1⟩
  rw [← HXB.out]
  have hB2 := HAL.out.trans (hb1.mono HAL.out.size)
  have hX2 := HX.out.kept hb1
  have HRI := Lib.hid (HP.out.ri.below hB2)
  generalize w.alloc (.cells #[.int .i64 5, .string ⟨name.toArray⟩, .int .i64 n, .slice Y data.length cy, .int .u64 (mask : Int)] 26) = w1 at *
  have y1 := hX2.cell 1 rfl
  obtain ⟨A, c, L, B, cu, U, hr⟩ := HRI.out
  have R1 := Lib.hid (refRead name hr hcE hs)
  have HO1 := Lib.hid ho1
  clear hr x0' x1' hp hrb P1 ho1 hb1 HX
  go_wp2_with fail
  refine R1.out.mono ?_
  rintro e w3 ⟨A2, c2, rfl, ho2, hb2⟩
  have hB3 := hB2.trans (hb2.mono hB2.size)
  have hcv1 := convB c1 (HO1.out.below hb2).rb
  have hcv2 := convB c2 ho2.rb
  have HF : Hid (Pair2 T M S w d (actD D 5 name n data mask) g (actD E 5 name n data mask) w3) := Lib.hid (HP.out.still hB3)
  have HEQ : Hid (D = E → readB D name = readB E name) := Lib.hid fun e => by rw [e]
  have HEC : Hid (D = E → readE D name = readE E name) := Lib.hid fun e => by rw [e]
  by_cases hbe : readB D name = readB E name
  · rw [hbe] at hcv1 ⊢
    generalize readB E name = bb at *
    generalize readE D name = e1 at *
    generalize readE E name = e2 at *
    clear hbe HEQ HO1 ho2 hb2 hB3 R1 hB2 hX2 y1
    go_wp2_with fail
    go_ret
    exact ⟨_, rfl, Lib.hid (beq_codes rfl HEC.out), HF.out⟩
  · have hne : (readB D name == readB E name) = false := by simpa using hbe
    have HNE : Hid (D ≠ E) := Lib.hid fun e => hbe (HEQ.out e)
    generalize readB D name = b1 at *
    generalize readB E name = b2 at *
    generalize readE D name = e1 at *
    generalize readE E name = e2 at *
    have hne2 : ((ByteArray.mk b1.toArray).toList == (ByteArray.mk b2.toArray).toList) = false := by rw [ByteArray.toList_mk, ByteArray.toList_mk]; exact hne
    clear hbe HEQ HO1 ho2 hb2 hB3 R1 hB2 hX2 y1
    go_wp2_with fail
    go_ret
    exact ⟨_, rfl, Lib.hid (fun e => absurd e HNE.out), HF.out⟩

set_option maxRecDepth 20000 in
set_option maxHeartbeats 8000000 in
theorem lawAct6 (name : Nm) (n : Int) (data : List UInt8) (Y : Option Addr) (cy : Nat) (mask : Nat) (h : Pair T M S w d D g E) (hY : RB w Y data) (hYM : 0 < data.length → ∀ b, Y.map (·.block) = some b → ¬ T b ∧ ¬ M b) (hcD : D.cnt ≤ 1000000) (hcE : E.cnt ≤ 1000000) (hs : name.length ≤ 9223372036854775807) (hn : -9223372036854775808 ≤ n ∧ n ≤ 9223372036854775807) (hdl : data.length ≤ 140737488351232) (hm : mask < 18446744073709551616) : Calls Tryd.prog 22 #[.pointer (some ⟨d, 0, none⟩), .pointer (some ⟨g, 0, none⟩), .agg #[.int .i64 6, .string ⟨name.toArray⟩, .int .i64 n, .slice Y data.length cy, .int .u64 (mask : Int)]] w (ActEnd T M S w d D g E (actD D 6 name n data mask) (actD E 6 name n data mask)) := by
  have hal : Below w.heap.size w (w.alloc (.cells #[.int .i64 6, .string ⟨name.toArray⟩, .int .i64 n, .slice Y data.length cy, .int .u64 (mask : Int)] 26)) := (Below.refl _ _).alloc (Nat.le_refl _) _
  have hx := Blk.new w #[.int .i64 6, .string ⟨name.toArray⟩, .int .i64 n, .slice Y data.length cy, .int .u64 (mask : Int)] 26
  have hp := h.below hal
  have hrb := hY.below hal
  obtain ⟨xb, hxb⟩ : ∃ xb, xb = w.heap.size := ⟨_, rfl⟩
  have HXB := Lib.hid hxb
  have HP := Lib.hid h
  have HAL := Lib.hid hal
  have x0' := hx.cell 0 rfl
  rw [← hxb] at hx
  have HX := Lib.hid hx
  have HX2 : Hid (¬ T xb ∧ ¬ M xb ∧ ¬ S xb) := Lib.hid (by
    rw [hxb]
    exact ⟨fun hT => Nat.lt_irrefl _ (h.di.bnd _ hT), fun hM => Nat.lt_irrefl _ (h.ri.bnd _ (.inl hM)), fun hS => Nat.lt_irrefl _ (h.ri.bnd _ (.inr hS))⟩)
  have P1 := Lib.hid (diskRoomC n hp.di)
  have x2' : (w.alloc (.cells #[.int .i64 6, .string ⟨name.toArray⟩, .int .i64 n, .slice Y data.length cy, .int .u64 (mask : Int)] 26)).cell? ⟨w.heap.size, 2, none⟩ = some (.int .i64 n) := by rw [← HXB.out]; exact HX.out.cell 2 rfl
  by_cases hbad : n < 0 ∨ 4194304 < n
  · have hv : ∀ F : DSt, roomD F n = (1, F) := fun F => by unfold roomD; rw [if_pos hbad]
    rw [hv] at P1
    have HD : Hid (actD D 6 name n data mask = D ∧ actD E 6 name n data mask = E) := Lib.hid ⟨by show (roomD D n).2 = D; rw [hv], by show (roomD E n).2 = E; rw [hv]⟩
    clear hv
    rcases hbad with hbad | hbad
    all_goals
      clear h hal hx hxb
      go_enter Tryd.func22, Tryd.ntmps22
      go_wp2_with fail
      refine P1.out.mono ?_
      rintro e w2 ⟨rfl, hd2, hm2⟩
      rw [← HXB.out]
      have hX2 := HX.out.mods hm2 HX2.out.1
      have y2 := hX2.cell 2 rfl
      obtain ⟨hp2, hmm⟩ := HP.out.second HAL.out ⟨hd2, hm2⟩
      have HF : Hid (Pair2 T M S w d (actD D 6 name n data mask) g (actD E 6 name n data mask) w2) := Lib.hid (by
        rw [HD.out.1, HD.out.2]
        exact HP.out.fin HAL.out ⟨hd2, hm2⟩ ⟨⟨M, S, hp2.ri, fun b hb => .inl hb, fun b hb => .inl hb⟩, Mods.refl _ _⟩)
      clear hd2 hm2 hp2 hmm P1 x0' x2' hp hrb HX
      go_wp2_with fail
      go_ret
      exact ⟨_, rfl, Lib.hid (fun _ => rfl), HF.out⟩
  · have hv : ∀ F : DSt, roomD F n = (0, { F with room := n }) := fun F => by unfold roomD; rw [if_neg hbad]
    rw [hv] at P1
    have HD : Hid (actD D 6 name n data mask = { D with room := n } ∧ actD E 6 name n data mask = { E with room := n }) := Lib.hid ⟨by show (roomD D n).2 = _; rw [hv], by show (roomD E n).2 = _; rw [hv]⟩
    clear hv
    have hb1 : 0 ≤ n := by omega
    have hb2 : n ≤ 4194304 := by omega
    clear h hal hx hxb
    go_enter Tryd.func22, Tryd.ntmps22
    go_wp2_with fail
    refine P1.out.mono ?_
    rintro e w2 ⟨rfl, hd2, hm2⟩
    rw [← HXB.out]
    have hX2 := HX.out.mods hm2 HX2.out.1
    have y2 := hX2.cell 2 rfl
    obtain ⟨hp2, hmm⟩ := HP.out.second HAL.out ⟨hd2, hm2⟩
    obtain ⟨A, c, L, B, cu, U, hr⟩ := hp2.ri
    have ge := hr.blk.cell 2 rfl
    have gf := hr.blk.free 2
    have HF : Hid (Pair2 T M S w d (actD D 6 name n data mask) g (actD E 6 name n data mask) (w2.setCell ⟨g, 2, none⟩ (.int .i64 n))) := Lib.hid (by
      rw [HD.out.1, HD.out.2]
      refine HP.out.fin HAL.out ⟨hd2, hm2⟩ ⟨⟨M, S, ⟨A, c, L, B, cu, U, hr.var (w' := w2.setCell ⟨g, 2, none⟩ (.int .i64 n)) (D' := { E with room := n }) (by simp) (fun b hb => Below.heap_setCell _ _ _ b hb) (hr.blk.setCell 2 (.int .i64 n)) rfl rfl ⟨by simp only; omega, hr.ok.2.1, hr.ok.2.2⟩⟩, fun b hb => .inl hb, fun b hb => .inl hb⟩, (Mods.refl _ _).setCell _ (.inl hr.mg) _⟩)
    clear hd2 hm2 hp2 hmm hr P1 x0' x2' hp hrb HX hbad
    go_wp2_with fail
    go_ret
    exact ⟨_, rfl, Lib.hid (fun _ => rfl), HF.out⟩

set_option maxRecDepth 20000 in
set_option maxHeartbeats 8000000 in
theorem lawAct7 (name : Nm) (n : Int) (data : List UInt8) (Y : Option Addr) (cy : Nat) (mask : Nat) (h : Pair T M S w d D g E) (hY : RB w Y data) (hYM : 0 < data.length → ∀ b, Y.map (·.block) = some b → ¬ T b ∧ ¬ M b) (hcD : D.cnt ≤ 1000000) (hcE : E.cnt ≤ 1000000) (hs : name.length ≤ 9223372036854775807) (hn : -9223372036854775808 ≤ n ∧ n ≤ 9223372036854775807) (hdl : data.length ≤ 140737488351232) (hm : mask < 18446744073709551616) : Calls Tryd.prog 22 #[.pointer (some ⟨d, 0, none⟩), .pointer (some ⟨g, 0, none⟩), .agg #[.int .i64 7, .string ⟨name.toArray⟩, .int .i64 n, .slice Y data.length cy, .int .u64 (mask : Int)]] w (ActEnd T M S w d D g E (actD D 7 name n data mask) (actD E 7 name n data mask)) := by
  have hal : Below w.heap.size w (w.alloc (.cells #[.int .i64 7, .string ⟨name.toArray⟩, .int .i64 n, .slice Y data.length cy, .int .u64 (mask : Int)] 26)) := (Below.refl _ _).alloc (Nat.le_refl _) _
  have hx := Blk.new w #[.int .i64 7, .string ⟨name.toArray⟩, .int .i64 n, .slice Y data.length cy, .int .u64 (mask : Int)] 26
  have hp := h.below hal
  have hrb := hY.below hal
  obtain ⟨xb, hxb⟩ : ∃ xb, xb = w.heap.size := ⟨_, rfl⟩
  have HXB := Lib.hid hxb
  have HP := Lib.hid h
  have HAL := Lib.hid hal
  have x0' := hx.cell 0 rfl
  rw [← hxb] at hx
  have HX := Lib.hid hx
  have HX2 : Hid (¬ T xb ∧ ¬ M xb ∧ ¬ S xb) := Lib.hid (by
    rw [hxb]
    exact ⟨fun hT => Nat.lt_irrefl _ (h.di.bnd _ hT), fun hM => Nat.lt_irrefl _ (h.ri.bnd _ (.inl hM)), fun hS => Nat.lt_irrefl _ (h.ri.bnd _ (.inr hS))⟩)
  have P1 := Lib.hid (diskFuseC n hn.2 hp.di)
  have x2' : (w.alloc (.cells #[.int .i64 7, .string ⟨name.toArray⟩, .int .i64 n, .slice Y data.length cy, .int .u64 (mask : Int)] 26)).cell? ⟨w.heap.size, 2, none⟩ = some (.int .i64 n) := by rw [← HXB.out]; exact HX.out.cell 2 rfl
  by_cases hbad : n < 0
  · have hv : ∀ F : DSt, fuseD F n = (1, F) := fun F => by unfold fuseD; rw [if_pos hbad]
    rw [hv] at P1
    have HD : Hid (actD D 7 name n data mask = D ∧ actD E 7 name n data mask = E) := Lib.hid ⟨by show (fuseD D n).2 = D; rw [hv], by show (fuseD E n).2 = E; rw [hv]⟩
    clear hv
    all_goals
      clear h hal hx hxb
      go_enter Tryd.func22, Tryd.ntmps22
      go_wp2_with fail
      refine P1.out.mono ?_
      rintro e w2 ⟨rfl, hd2, hm2⟩
      rw [← HXB.out]
      have hX2 := HX.out.mods hm2 HX2.out.1
      have y2 := hX2.cell 2 rfl
      obtain ⟨hp2, hmm⟩ := HP.out.second HAL.out ⟨hd2, hm2⟩
      have HF : Hid (Pair2 T M S w d (actD D 7 name n data mask) g (actD E 7 name n data mask) w2) := Lib.hid (by
        rw [HD.out.1, HD.out.2]
        exact HP.out.fin HAL.out ⟨hd2, hm2⟩ ⟨⟨M, S, hp2.ri, fun b hb => .inl hb, fun b hb => .inl hb⟩, Mods.refl _ _⟩)
      clear hd2 hm2 hp2 hmm P1 x0' x2' hp hrb HX
      go_wp2_with fail
      go_ret
      exact ⟨_, rfl, Lib.hid (fun _ => rfl), HF.out⟩
  · have hv : ∀ F : DSt, fuseD F n = (0, { F with fuse := n }) := fun F => by unfold fuseD; rw [if_neg hbad]
    rw [hv] at P1
    have HD : Hid (actD D 7 name n data mask = { D with fuse := n } ∧ actD E 7 name n data mask = { E with fuse := n }) := Lib.hid ⟨by show (fuseD D n).2 = _; rw [hv], by show (fuseD E n).2 = _; rw [hv]⟩
    clear hv
    have hb1 : 0 ≤ n := by omega
    clear h hal hx hxb
    go_enter Tryd.func22, Tryd.ntmps22
    go_wp2_with fail
    refine P1.out.mono ?_
    rintro e w2 ⟨rfl, hd2, hm2⟩
    rw [← HXB.out]
    have hX2 := HX.out.mods hm2 HX2.out.1
    have y2 := hX2.cell 2 rfl
    obtain ⟨hp2, hmm⟩ := HP.out.second HAL.out ⟨hd2, hm2⟩
    obtain ⟨A, c, L, B, cu, U, hr⟩ := hp2.ri
    have ge := hr.blk.cell 3 rfl
    have gf := hr.blk.free 3
    have HF : Hid (Pair2 T M S w d (actD D 7 name n data mask) g (actD E 7 name n data mask) (w2.setCell ⟨g, 3, none⟩ (.int .i64 n))) := Lib.hid (by
      rw [HD.out.1, HD.out.2]
      refine HP.out.fin HAL.out ⟨hd2, hm2⟩ ⟨⟨M, S, ⟨A, c, L, B, cu, U, hr.var (w' := w2.setCell ⟨g, 3, none⟩ (.int .i64 n)) (D' := { E with fuse := n }) (by simp) (fun b hb => Below.heap_setCell _ _ _ b hb) (hr.blk.setCell 3 (.int .i64 n)) rfl rfl ⟨hr.ok.1, ⟨by simp only; omega, hn.2⟩, hr.ok.2.2⟩⟩, fun b hb => .inl hb, fun b hb => .inl hb⟩, (Mods.refl _ _).setCell _ (.inl hr.mg) _⟩)
    clear hd2 hm2 hp2 hmm hr P1 x0' x2' hp hrb HX hbad
    go_wp2_with fail
    go_ret
    exact ⟨_, rfl, Lib.hid (fun _ => rfl), HF.out⟩

set_option maxRecDepth 20000 in
set_option maxHeartbeats 8000000 in
theorem lawAct8 (name : Nm) (n : Int) (data : List UInt8) (Y : Option Addr) (cy : Nat) (mask : Nat) (h : Pair T M S w d D g E) (hY : RB w Y data) (hYM : 0 < data.length → ∀ b, Y.map (·.block) = some b → ¬ T b ∧ ¬ M b) (hcD : D.cnt ≤ 1000000) (hcE : E.cnt ≤ 1000000) (hs : name.length ≤ 9223372036854775807) (hn : -9223372036854775808 ≤ n ∧ n ≤ 9223372036854775807) (hdl : data.length ≤ 140737488351232) (hm : mask < 18446744073709551616) : Calls Tryd.prog 22 #[.pointer (some ⟨d, 0, none⟩), .pointer (some ⟨g, 0, none⟩), .agg #[.int .i64 8, .string ⟨name.toArray⟩, .int .i64 n, .slice Y data.length cy, .int .u64 (mask : Int)]] w (ActEnd T M S w d D g E (actD D 8 name n data mask) (actD E 8 name n data mask)) := by
  have hal : Below w.heap.size w (w.alloc (.cells #[.int .i64 8, .string ⟨name.toArray⟩, .int .i64 n, .slice Y data.length cy, .int .u64 (mask : Int)] 26)) := (Below.refl _ _).alloc (Nat.le_refl _) _
  have hx := Blk.new w #[.int .i64 8, .string ⟨name.toArray⟩, .int .i64 n, .slice Y data.length cy, .int .u64 (mask : Int)] 26
  have hp := h.below hal
  have hrb := hY.below hal
  obtain ⟨xb, hxb⟩ : ∃ xb, xb = w.heap.size := ⟨_, rfl⟩
  have HXB := Lib.hid hxb
  have HP := Lib.hid h
  have HAL := Lib.hid hal
  have x0' := hx.cell 0 rfl
  rw [← hxb] at hx
  have HX := Lib.hid hx
  have HX2 : Hid (¬ T xb ∧ ¬ M xb ∧ ¬ S xb) := Lib.hid (by
    rw [hxb]
    exact ⟨fun hT => Nat.lt_irrefl _ (h.di.bnd _ hT), fun hM => Nat.lt_irrefl _ (h.ri.bnd _ (.inl hM)), fun hS => Nat.lt_irrefl _ (h.ri.bnd _ (.inr hS))⟩)
  obtain ⟨A, c, L, B, cu, U, hr⟩ := hp.ri
  have R1 := Lib.hid (refFall mask n hr hcE hm hn)
  have x2' : (w.alloc (.cells #[.int .i64 8, .string ⟨name.toArray⟩, .int .i64 n, .slice Y data.length cy, .int .u64 (mask : Int)] 26)).cell? ⟨w.heap.size, 2, none⟩ = some (.int .i64 n) := by rw [← HXB.out]; exact HX.out.cell 2 rfl
  have x4' : (w.alloc (.cells #[.int .i64 8, .string ⟨name.toArray⟩, .int .i64 n, .slice Y data.length cy, .int .u64 (mask : Int)] 26)).cell? ⟨w.heap.size, 4, none⟩ = some (.int .u64 (mask : Int)) := by rw [← HXB.out]; exact HX.out.cell 4 rfl
  clear hr
  clear h hal hx hxb
  go_enter Tryd.func22, Tryd.ntmps22
  go_wp2_with fail
  refine R1.out.mono ?_
  rintro e w2 ⟨rfl, hr2, hm2⟩
  rw [← HXB.out]
  have hX2 := HX.out.mods hm2 HX2.out.2.1
  have y2 := hX2.cell 2 rfl
  have y4 := hX2.cell 4 rfl
  have P1 := Lib.hid (diskFallC mask n (hp.di.mods hm2 fun b _ hT => (HP.out.ap b hT).1) hcD hm hn)
  have HR2 := Lib.hid (⟨hr2, hm2⟩ : _ ∧ _)
  clear hr2 hm2 R1 x0' x2' x4' hp hrb HX
  go_wp2_with fail
  refine P1.out.mono ?_
  rintro e w3 ⟨rfl, hd3, hm3⟩
  have HF : Hid (Pair2 T M S w d (actD D 8 name n data mask) g (actD E 8 name n data mask) w3) := Lib.hid (HP.out.fin' HAL.out HR2.out ⟨hd3, hm3⟩)
  clear hd3 hm3 P1 HR2
  go_wp2_with fail
  go_ret
  exact ⟨_, rfl, Lib.hid (fun _ => rfl), HF.out⟩

set_option maxRecDepth 20000 in
set_option maxHeartbeats 8000000 in
theorem lawAct0 (kind : Int) (name : Nm) (n : Int) (data : List UInt8) (Y : Option Addr) (cy : Nat) (mask : Nat) (h : Pair T M S w d D g E) (hY : RB w Y data) (hYM : 0 < data.length → ∀ b, Y.map (·.block) = some b → ¬ T b ∧ ¬ M b) (hcD : D.cnt ≤ 1000000) (hcE : E.cnt ≤ 1000000) (hs : name.length ≤ 9223372036854775807) (hn : -9223372036854775808 ≤ n ∧ n ≤ 9223372036854775807) (hdl : data.length ≤ 140737488351232) (hm : mask < 18446744073709551616) (hk : ∀ i : Int, 1 ≤ i → i ≤ 8 → kind ≠ i) : Calls Tryd.prog 22 #[.pointer (some ⟨d, 0, none⟩), .pointer (some ⟨g, 0, none⟩), .agg #[.int .i64 kind, .string ⟨name.toArray⟩, .int .i64 n, .slice Y data.length cy, .int .u64 (mask : Int)]] w (ActEnd T M S w d D g E (actD D kind name n data mask) (actD E kind name n data mask)) := by
  have hal : Below w.heap.size w (w.alloc (.cells #[.int .i64 kind, .string ⟨name.toArray⟩, .int .i64 n, .slice Y data.length cy, .int .u64 (mask : Int)] 26)) := (Below.refl _ _).alloc (Nat.le_refl _) _
  have hx := Blk.new w #[.int .i64 kind, .string ⟨name.toArray⟩, .int .i64 n, .slice Y data.length cy, .int .u64 (mask : Int)] 26
  have hp := h.below hal
  have hrb := hY.below hal
  obtain ⟨xb, hxb⟩ : ∃ xb, xb = w.heap.size := ⟨_, rfl⟩
  have HXB := Lib.hid hxb
  have HP := Lib.hid h
  have HAL := Lib.hid hal
  have x0' := hx.cell 0 rfl
  rw [← hxb] at hx
  have HX := Lib.hid hx
  have HX2 : Hid (¬ T xb ∧ ¬ M xb ∧ ¬ S xb) := Lib.hid (by
    rw [hxb]
    exact ⟨fun hT => Nat.lt_irrefl _ (h.di.bnd _ hT), fun hM => Nat.lt_irrefl _ (h.ri.bnd _ (.inl hM)), fun hS => Nat.lt_irrefl _ (h.ri.bnd _ (.inr hS))⟩)
  have k1 : (kind == 1) = false := by have := hk 1 (by decide) (by decide); simpa using this
  have k2 : (kind == 2) = false := by have := hk 2 (by decide) (by decide); simpa using this
  have k3 : (kind == 3) = false := by have := hk 3 (by decide) (by decide); simpa using this
  have k4 : (kind == 4) = false := by have := hk 4 (by decide) (by decide); simpa using this
  have k5 : (kind == 5) = false := by have := hk 5 (by decide) (by decide); simpa using this
  have k6 : (kind == 6) = false := by have := hk 6 (by decide) (by decide); simpa using this
  have k7 : (kind == 7) = false := by have := hk 7 (by decide) (by decide); simpa using this
  have k8 : (kind == 8) = false := by have := hk 8 (by decide) (by decide); simpa using this
  have HF : Hid (Pair2 T M S w d (actD D kind name n data mask) g (actD E kind name n data mask) (w.alloc (.cells #[.int .i64 kind, .string ⟨name.toArray⟩, .int .i64 n, .slice Y data.length cy, .int .u64 (mask : Int)] 26))) := Lib.hid (by
    have e : ∀ F : DSt, actD F kind name n data mask = F := fun F => by
      unfold actD
      rw [if_neg (hk 1 (by decide) (by decide)), if_neg (hk 2 (by decide) (by decide)), if_neg (hk 3 (by decide) (by decide)), if_neg (hk 4 (by decide) (by decide)), if_neg (hk 6 (by decide) (by decide)), if_neg (hk 7 (by decide) (by decide)), if_neg (hk 8 (by decide) (by decide))]
    rw [e, e]
    exact h.still hal)
  clear hk
  clear h hal hx hxb
  go_enter Tryd.func22, Tryd.ntmps22
  go_wp2_with fail
  go_ret
  exact ⟨_, rfl, Lib.hid (fun _ => rfl), HF.out⟩
theorem lawAct (kind : Int) (name : Nm) (n : Int) (data : List UInt8) (Y : Option Addr) (cy : Nat) (mask : Nat) (h : Pair T M S w d D g E) (hY : RB w Y data) (hYM : 0 < data.length → ∀ b, Y.map (·.block) = some b → ¬ T b ∧ ¬ M b) (hcD : D.cnt ≤ 1000000) (hcE : E.cnt ≤ 1000000) (hs : name.length ≤ 9223372036854775807) (hn : -9223372036854775808 ≤ n ∧ n ≤ 9223372036854775807) (hdl : data.length ≤ 140737488351232) (hm : mask < 18446744073709551616) : Calls Tryd.prog 22 #[.pointer (some ⟨d, 0, none⟩), .pointer (some ⟨g, 0, none⟩), .agg #[.int .i64 kind, .string ⟨name.toArray⟩, .int .i64 n, .slice Y data.length cy, .int .u64 (mask : Int)]] w (ActEnd T M S w d D g E (actD D kind name n data mask) (actD E kind name n data mask)) := by
  by_cases k1 : kind = 1
  · subst k1; exact lawAct1 name n data Y cy mask h hY hYM hcD hcE hs hn hdl hm
  by_cases k2 : kind = 2
  · subst k2; exact lawAct2 name n data Y cy mask h hY hYM hcD hcE hs hn hdl hm
  by_cases k3 : kind = 3
  · subst k3; exact lawAct3 name n data Y cy mask h hY hYM hcD hcE hs hn hdl hm
  by_cases k4 : kind = 4
  · subst k4; exact lawAct4 name n data Y cy mask h hY hYM hcD hcE hs hn hdl hm
  by_cases k5 : kind = 5
  · subst k5; exact lawAct5 name n data Y cy mask h hY hYM hcD hcE hs hn hdl hm
  by_cases k6 : kind = 6
  · subst k6; exact lawAct6 name n data Y cy mask h hY hYM hcD hcE hs hn hdl hm
  by_cases k7 : kind = 7
  · subst k7; exact lawAct7 name n data Y cy mask h hY hYM hcD hcE hs hn hdl hm
  by_cases k8 : kind = 8
  · subst k8; exact lawAct8 name n data Y cy mask h hY hYM hcD hcE hs hn hdl hm
  exact lawAct0 kind name n data Y cy mask h hY hYM hcD hcE hs hn hdl hm (fun i h1 h8 e => by omega)
end
end Go.Proofs.YthdmnajcphaekaaDoor
