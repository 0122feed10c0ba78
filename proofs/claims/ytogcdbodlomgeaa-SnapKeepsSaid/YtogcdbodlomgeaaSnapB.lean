/- The contract of the reference's Cut. -/
import Derived.Test.YtogcdbodlomgeaaSnapA
import Derived.Test.YtogcdbodlomgeaaOpApp
namespace Go.Proofs.Ytogcdbodlomgeaa
open Go.RowKit

set_option maxHeartbeats 1000000 in
theorem refCut_bad (i t : Int) (A : Option Addr) (c : Nat) (l : List UInt8) (off : Int) (w : World) (hl : l.length ≤ 9223372036854775807) (h1 : -9223372036854775808 ≤ off ∧ off ≤ 9223372036854775807) (hb : off < 0 ∨ (l.length : Int) < off) :
    Calls Try.prog 16 #[.int .u64 i, .int .u64 t, .slice A l.length c, .int .i64 off] w fun e w' => e = PieceE 0 0 0 false none 0 0 1 ∧ Below w.heap.size w w' := by
  have hbw := (Below.refl w.heap.size w).alloc (Nat.le_refl _) (Obj.cells #[.int .u64 0, .int .u64 0, .int .i64 0, .bool false, .slice none 0 0] 29)
  go_enter Try.func16, Try.ntmps16
  by_cases h0 : off < 0
  · go_wp2_with fail
    refine bodyPost_ret (v := .tuple #[.agg #[.int .u64 0, .int .u64 0, .int .i64 0, .bool false, .slice none 0 0], .int .i64 1]) (by simp [results, Try.results16, go_sem]) rfl ⟨rfl, hbw⟩
  · go_wp2_with fail
    refine bodyPost_ret (v := .tuple #[.agg #[.int .u64 0, .int .u64 0, .int .i64 0, .bool false, .slice none 0 0], .int .i64 1]) (by simp [results, Try.results16, go_sem]) rfl ⟨rfl, hbw⟩

set_option maxRecDepth 20000 in
set_option maxHeartbeats 2000000 in
theorem refCut (i t : Int) (A : Option Addr) (c : Nat) (l : List UInt8) (k : Nat) (w : World) (h : RB w A l) (hl : l.length ≤ 140737488355328) (hk : k ≤ l.length) :
    Calls Try.prog 16 #[.int .u64 i, .int .u64 t, .slice A l.length c, .int .i64 (k : Int)] w fun e w' => ∃ (p : List UInt8) (P : Option Addr) (d : Nat), Hid (p = chunk l k) ∧ p.length ≤ 256 ∧ e = PieceE i t k (decide (k + (chunk l k).length = l.length)) P p.length d 0 ∧ OB w' w.heap.size P d p ∧ Below w.heap.size w w' := by
  have h0 : ¬ (k : Int) < 0 := by omega
  have h1 : ¬ (l.length : Int) < (k : Int) := by omega
  have HR := Lib.hid h
  go_enter Try.func16, Try.ntmps16
  go_wp2_with fail
  have hN1 := (Blk.new (w.alloc (.cells #[.int .u64 0, .int .u64 0, .int .i64 0, .bool false, .slice none 0 0] 29)) #[.int .u64 i, .int .u64 t, .int .i64 (k : Int), .bool false, .slice none 0 0] 29)
  have hN0 := (Blk.new w #[.int .u64 0, .int .u64 0, .int .i64 0, .bool false, .slice none 0 0] 29).kept ((Below.refl _ _).alloc (Nat.le_refl _) (.cells #[.int .u64 i, .int .u64 t, .int .i64 (k : Int), .bool false, .slice none 0 0] 29))
  have hNB := ((Below.refl w.heap.size w).alloc (Nat.le_refl _) (.cells #[.int .u64 0, .int .u64 0, .int .i64 0, .bool false, .slice none 0 0] 29)).alloc (by simp) (.cells #[.int .u64 i, .int .u64 t, .int .i64 (k : Int), .bool false, .slice none 0 0] 29)
  rw [show (w.alloc (.cells #[.int .u64 0, .int .u64 0, .int .i64 0, .bool false, .slice none 0 0] 29)).heap.size = w.heap.size + 1 from by simp] at hN1
  have HN := Lib.hid (And.intro hN0 (And.intro hN1 hNB))
  clear hN0 hN1 hNB
  go_loopw [11] (fun iv wr => ∃ (m : Nat) (p : List UInt8) (P : Option Addr) (cp : Nat), k ≤ m ∧ m ≤ l.length ∧ m ≤ k + 256 ∧ iv = .int .i64 (m : Int) ∧ Hid (p = (l.drop k).take (m - k)) ∧ p.length + k ≤ m ∧ m ≤ p.length + k ∧
      Blk wr w.heap.size 29 #[.int .u64 0, .int .u64 0, .int .i64 0, .bool false, .slice none 0 0] ∧ Blk wr (w.heap.size + 1) 29 #[.int .u64 i, .int .u64 t, .int .i64 (k : Int), .bool false, .slice P p.length cp] ∧
      OB wr (w.heap.size + 2) P cp p ∧ Below w.heap.size w wr)
    (fun iv _ => l.length - (intOf iv).toNat)
  case atStart => exact ⟨k, [], none, 0, Nat.le_refl _, hk, by omega, rfl, Lib.hid (by simp), by simp, by simp, HN.out.1, HN.out.2.1, OB.nil _ _, HN.out.2.2⟩
  case round =>
    obtain ⟨m, p, P, cp, hkm, hm1, hm2, rfl, hp, hp1, hp2, hb0, hb1, ho, hb⟩ := hrel
    have hc4 := hb1.cell 4 (v := .slice P p.length cp) rfl
    have hsz := hb1.lt
    by_cases hlt : m < l.length ∧ m < k + 256
    · obtain ⟨g1, g2⟩ := hlt
      have e1 : (m : Int) < (l.length : Int) := by omega
      have e2 : (m : Int) - (k : Int) < 256 := by omega
      obtain ⟨bb, off, rfl, hbb, hc⟩ := (HR.out.below hb).cell (j := m) g1
      obtain ⟨x, hx⟩ : ∃ x, x = l[m] := ⟨_, rfl⟩
      rw [← hx] at hc
      have HX : Hid (p ++ [x] = (l.drop k).take (m + 1 - k)) := Lib.hid (by
        rw [hp.out, show m + 1 - k = (m - k) + 1 from by omega, List.take_succ_eq_append_getElem (by simp; omega), List.getElem_drop]
        congr 2
        rw [hx]
        congr 1
        omega)
      have HP := Lib.hid ho
      clear hx hp ho
      go_wp2_with fail
      refine wp_region_planE (by kernel_rfl) [(0, none), (1, none), (2, none), (3, none), (4, none), (5, none), (6, some [5]), (7, some [1]), (8, none), (9, some [0, 1, 2, 3, 4, 5, 8])] (by kernel_rfl) (by kernel_rfl) (by decide) ?_
      iterate 1 (refine planE_pure (v := ?_) rfl (by rfl) (fun w' => ?_) ?_; rotate_left; (focus (simp only [List.getElem_toArray, List.getElem_cons_succ, List.getElem_cons_zero]; go_simp; try with_reducible rfl)); try simp only [List.getElem_toArray, List.getElem_cons_succ, List.getElem_cons_zero, Act.put, List.setIfInBounds_toArray, List.set_cons_zero, List.set_cons_succ])
      refine planE_read (v := ?_) (fun w' => w'.cell? ⟨w.heap.size + 1, 4, none⟩ = some (.slice P p.length cp)) rfl (by rfl) (fun w' hw' => ?_) hc4 ?_; rotate_left; (focus (simp only [List.getElem_toArray, List.getElem_cons_succ, List.getElem_cons_zero]; go_simp; try with_reducible rfl)); try simp only [List.getElem_toArray, List.getElem_cons_succ, List.getElem_cons_zero, Act.put, List.setIfInBounds_toArray, List.set_cons_zero, List.set_cons_succ]
      iterate 3 (refine planE_pure (v := ?_) rfl (by rfl) (fun w' => ?_) ?_; rotate_left; (focus (simp only [List.getElem_toArray, List.getElem_cons_succ, List.getElem_cons_zero]; go_simp; try with_reducible rfl)); try simp only [List.getElem_toArray, List.getElem_cons_succ, List.getElem_cons_zero, Act.put, List.setIfInBounds_toArray, List.set_cons_zero, List.set_cons_succ])
      refine planE_read (v := ?_) (fun w' => w'.cell? ⟨bb, off + m, none⟩ = some (.int .u8 (x.toNat : Int))) rfl (by rfl) (fun w' hw' => ?_) hc ?_; rotate_left; (focus (simp only [List.getElem_toArray, List.getElem_cons_succ, List.getElem_cons_zero]; go_simp; try with_reducible rfl)); try simp only [List.getElem_toArray, List.getElem_cons_succ, List.getElem_cons_zero, Act.put, List.setIfInBounds_toArray, List.set_cons_zero, List.set_cons_succ]
      refine planE_eff rfl (by rfl) (fun K hK => ?_)
      go_simp
      have hbA : Below wr.heap.size wr (wr.alloc (.cells #[.int .u8 (x.toNat : Int)] 5)).drew := ((Below.refl _ _).alloc (Nat.le_refl _) _).drew
      have hbw6 := hb.trans (hbA.mono hb.size)
      have hb06 := hb0.kept hbA
      have hb16 := hb1.kept hbA
      have hc46 := hb16.cell 4 (v := .slice P p.length cp) rfl
      have HP6 := Lib.hid (HP.out.below hbA)
      have hx6 : (wr.alloc (.cells #[.int .u8 (x.toNat : Int)] 5)).drew.cell? ⟨wr.heap.size, 0, none⟩ = some (.int .u8 (x.toNat : Int)) := (Blk.new wr #[.int .u8 (x.toNat : Int)] 5).cell 0 rfl
      refine hK _ _ (by simp [owed, left]; exact hc46) ?_
      clear hK K
      try simp only [List.getElem_toArray, List.getElem_cons_succ, List.getElem_cons_zero, Act.put, List.setIfInBounds_toArray, List.set_cons_zero, List.set_cons_succ]
      generalize (wr.alloc (.cells #[.int .u8 (x.toNat : Int)] 5)).drew = w6 at *
      refine planE_eff rfl (by rfl) (fun K hK => ?_)
      refine op_append1B w6 (.tmp 39) (.tmp 44) (by rfl) (w.heap.size + 2) P cp wr.heap.size p x (by rfl) (by rfl) HP6.out hx6 (by omega) (by have := hbw6.size; have := hb16.lt; omega) ?_
      intro p7 P7 cp7 w7 hp7 hp71 hp72 ho7 hg7
      have hb07 := hb06.grown hg7 (by intro e'; have := (HP6.out.own_lt _ e').1; omega)
      have hb17 := hb16.grown hg7 (by intro e'; have := (HP6.out.own_lt _ e').1; omega)
      have hbw7 := hbw6.grown hg7 hbw6.size fun g hg => by have := (HP6.out.own_lt g hg).1; omega
      refine hK _ _ (by simp [owed, left]) ?_
      clear hK K
      try simp only [List.getElem_toArray, List.getElem_cons_succ, List.getElem_cons_zero, Act.put, List.setIfInBounds_toArray, List.set_cons_zero, List.set_cons_succ]
      iterate 1 (refine planE_pure (v := ?_) rfl (by rfl) (fun w' => ?_) ?_; rotate_left; (focus (simp only [List.getElem_toArray, List.getElem_cons_succ, List.getElem_cons_zero]; go_simp; try with_reducible rfl)); try simp only [List.getElem_toArray, List.getElem_cons_succ, List.getElem_cons_zero, Act.put, List.setIfInBounds_toArray, List.set_cons_zero, List.set_cons_succ])
      have hc47 := hb17.cell 4 (v := .slice P p.length cp) rfl
      have hf47 := hb17.free 4
      refine planE_eff rfl (by rfl) (fun K hK => ?_)
      go_simp
      refine hK _ _ (by simp [owed, left]) ?_
      clear hK K
      try simp only [List.getElem_toArray, List.getElem_cons_succ, List.getElem_cons_zero, Act.put, List.setIfInBounds_toArray, List.set_cons_zero, List.set_cons_succ]
      refine planE_end ?_
      have hb08 := hb07.setCell_other (a := ⟨w.heap.size + 1, 4, none⟩) (.slice P7 p7.length cp7) (by simp)
      have hb18 := hb17.setCell 4 (.slice P7 p7.length cp7)
      have ho8 := ho7.setCell (a := ⟨w.heap.size + 1, 4, none⟩) (by simp) (.slice P7 p7.length cp7)
      have hbw8 := hbw7.setCell (p := ⟨w.heap.size + 1, 4, none⟩) (by simp) (.slice P7 p7.length cp7)
      rw [show (#[Value.int .u64 i, .int .u64 t, .int .i64 (k : Int), .bool false, .slice P p.length cp].setIfInBounds 4 (.slice P7 p7.length cp7)) = #[.int .u64 i, .int .u64 t, .int .i64 (k : Int), .bool false, .slice P7 p7.length cp7] from rfl] at hb18
      rw [← hp7.out] at HX
      clear hb07 hb17 ho7 hbw7 hg7 hp7 HP6 hb06 hb16 hc46 hbw6 hx6 hbA hc47 hf47 hc4 hb1 hb0 HP hc
      generalize w7.setCell ⟨w.heap.size + 1, 4, none⟩ (.slice P7 p7.length cp7) = w8 at *
      go_wp2_with fail
      go_roundw
      case rel => exact ⟨m + 1, p7, P7, cp7, by omega, by omega, by omega, by go_num, HX, by omega, by omega, hb08, hb18, ho8, hbw8⟩
      case measure => simp [intOf]; omega
    · have hc3 := hb1.cell 3 (v := .bool false) rfl
      have hf3 := hb1.free 3
      have hpc : Hid (p = chunk l k) := Lib.hid (by
        rw [hp.out, chunk]
        by_cases hx : m = k + 256
        · congr 1; omega
        · rw [List.take_of_length_le (by simp; omega), List.take_of_length_le (by simp; omega)])
      have hpl : (chunk l k).length = p.length := by rw [hpc.out]
      obtain ⟨lb, hlb⟩ : ∃ lb : Bool, lb = decide (k + p.length = l.length) := ⟨_, rfl⟩
      have hlb2 : ((k : Int) + (p.length : Int) == (l.length : Int)) = lb := by
        rw [hlb]
        by_cases hx : k + p.length = l.length
        · simp [hx]; omega
        · simp [hx]; omega
      have HLB : Hid (decide (k + (chunk l k).length = l.length) = lb) := Lib.hid (by rw [hpl, hlb])
      clear hlb hp hpl
      have c10 := hb1.cell 0 (v := .int .u64 i) rfl
      have c11 := hb1.cell 1 (v := .int .u64 t) rfl
      have c12 := hb1.cell 2 (v := .int .i64 (k : Int)) rfl
      by_cases hlt2 : m < l.length
      · have e1 : (m : Int) < (l.length : Int) := by omega
        have e2 : ¬ ((m : Int) - (k : Int) < 256) := by omega
        have hB0' := hb0.setCell_other (a := ⟨w.heap.size + 1, 3, none⟩) (.bool lb) (by simp)
        go_wp2_with (refine wpList_store_row rfl 29 (.tmp 8) (.tmp 56) rfl w.heap.size _ rfl rfl _ _ hB0' rpiece_size rfl (by simp [Value.oneCell']) ?_)
        have hB3 := hB0'.setRow #[.int .u64 i, .int .u64 t, .int .i64 (k : Int), .bool lb, .slice P p.length cp]
        have h30 := hB3.cell 0 rfl
        have h31 := hB3.cell 1 rfl
        have h32 := hB3.cell 2 rfl
        have h33 := hB3.cell 3 rfl
        have h34 := hB3.cell 4 rfl
        refine bodyPost_ret (v := .tuple #[.agg #[.int .u64 i, .int .u64 t, .int .i64 (k : Int), .bool lb, .slice P p.length cp], .int .i64 0]) (by simp [results, Try.results16, go_sem, h30, h31, h32, h33, h34]) rfl ⟨p, hpc, by omega, P, cp, by rw [HLB.out]; rfl, (((ho.setCell (a := ⟨w.heap.size + 1, 3, none⟩) (by simp) (.bool lb))).setRow (ho.blk_ne (by omega)) _).base_le (by omega), below_setRow (hb.setCell (p := ⟨w.heap.size + 1, 3, none⟩) (by simp) (.bool lb)) (Nat.le_refl _) _⟩
      · have e1 : ¬ (m : Int) < (l.length : Int) := by omega
        have hB0' := hb0.setCell_other (a := ⟨w.heap.size + 1, 3, none⟩) (.bool lb) (by simp)
        go_wp2_with (refine wpList_store_row rfl 29 (.tmp 8) (.tmp 56) rfl w.heap.size _ rfl rfl _ _ hB0' rpiece_size rfl (by simp [Value.oneCell']) ?_)
        have hB3 := hB0'.setRow #[.int .u64 i, .int .u64 t, .int .i64 (k : Int), .bool lb, .slice P p.length cp]
        have h30 := hB3.cell 0 rfl
        have h31 := hB3.cell 1 rfl
        have h32 := hB3.cell 2 rfl
        have h33 := hB3.cell 3 rfl
        have h34 := hB3.cell 4 rfl
        refine bodyPost_ret (v := .tuple #[.agg #[.int .u64 i, .int .u64 t, .int .i64 (k : Int), .bool lb, .slice P p.length cp], .int .i64 0]) (by simp [results, Try.results16, go_sem, h30, h31, h32, h33, h34]) rfl ⟨p, hpc, by omega, P, cp, by rw [HLB.out]; rfl, (((ho.setCell (a := ⟨w.heap.size + 1, 3, none⟩) (by simp) (.bool lb))).setRow (ho.blk_ne (by omega)) _).base_le (by omega), below_setRow (hb.setCell (p := ⟨w.heap.size + 1, 3, none⟩) (by simp) (.bool lb)) (Nat.le_refl _) _⟩
end Go.Proofs.Ytogcdbodlomgeaa
