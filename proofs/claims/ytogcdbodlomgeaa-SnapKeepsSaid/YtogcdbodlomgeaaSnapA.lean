/- The contract of snap.Cut. -/
import Derived.Test.YtogcdbodlomgeaaClone
import Derived.Test.YtogcdbodlomgeaaBlk
import Derived.Test.YtogcdbodlomgeaaConv
import Derived.Test.YtogcdbodlomgeaaLift
import Derived.Test.YtogcdbodlomgeaaPlanE
namespace Go.Proofs.Ytogcdbodlomgeaa
open Go.RowKit

theorem piece_size : (Try.prog.info? 25).map (·.size) = some 5 := by kernel_rfl
theorem rpiece_size : (Try.prog.info? 29).map (·.size) = some 5 := by kernel_rfl

/-- The piece of bytes at a place. -/
def chunk (l : List UInt8) (k : Nat) : List UInt8 := (l.drop k).take 256

/-- A piece and an error in the results. -/
def PieceE (i t : Int) (off : Int) (last : Bool) (A : Option Addr) (n c : Nat) (err : Int) : Ending :=
  .returned (.tuple #[.agg #[.int .u64 i, .int .u64 t, .int .i64 off, .bool last, .slice A n c], .int .i64 err])

theorem RB.part {w : World} {b off : Nat} {l : List UInt8} (h : RB w (some ⟨b, off, none⟩) l) (k m : Nat) : RB w (some ⟨b, off + k, none⟩) ((l.drop k).take m) :=
  ⟨fun hn => by
    have hl : k < l.length := by simp at hn; omega
    obtain ⟨b', off', e, hb, hc⟩ := h.at_ (by omega)
    injection e with e
    injection e with e1 e2
    subst e1 e2
    refine ⟨_, _, rfl, hb, fun j x hx => ?_⟩
    rw [List.getElem?_take] at hx
    split at hx
    · rw [List.getElem?_drop] at hx
      rw [Nat.add_assoc]
      exact hc _ x hx
    · cases hx⟩

set_option maxHeartbeats 1000000 in
theorem snapCut_bad (i t : Int) (A : Option Addr) (c : Nat) (l : List UInt8) (off : Int) (w : World) (hl : l.length ≤ 9223372036854775807) (h1 : -9223372036854775808 ≤ off ∧ off ≤ 9223372036854775807) (hb : off < 0 ∨ (l.length : Int) < off) :
    Calls Try.prog 15 #[.int .u64 i, .int .u64 t, .slice A l.length c, .int .i64 off] w fun e w' => e = PieceE 0 0 0 false none 0 0 1 ∧ Below w.heap.size w w' := by
  have hbw := (Below.refl w.heap.size w).alloc (Nat.le_refl _) (Obj.cells #[.int .u64 0, .int .u64 0, .int .i64 0, .bool false, .slice none 0 0] 25)
  go_enter Try.func15, Try.ntmps15
  by_cases h0 : off < 0
  · go_wp2_with fail
    refine bodyPost_ret (v := .tuple #[.agg #[.int .u64 0, .int .u64 0, .int .i64 0, .bool false, .slice none 0 0], .int .i64 1]) (by simp [results, Try.results15, go_sem]) rfl ⟨rfl, hbw⟩
  · go_wp2_with fail
    refine bodyPost_ret (v := .tuple #[.agg #[.int .u64 0, .int .u64 0, .int .i64 0, .bool false, .slice none 0 0], .int .i64 1]) (by simp [results, Try.results15, go_sem]) rfl ⟨rfl, hbw⟩

theorem RB.sub {w : World} {A : Option Addr} {l : List UInt8} (h : RB w A l) (k m : Nat) : RB w (A.map (·.add k)) ((l.drop k).take m) := by
  rcases A with _ | ad
  · have hl0 : l = [] := by
      rcases Nat.eq_zero_or_pos l.length with h0 | h0
      · exact List.eq_nil_of_length_eq_zero h0
      · obtain ⟨b, off, e, _⟩ := h.at_ h0; cases e
    subst hl0
    simpa using RB.nil
  · rcases Nat.eq_zero_or_pos l.length with h0 | h0
    · have hl0 : l = [] := List.eq_nil_of_length_eq_zero h0
      subst hl0
      simpa using RB.nil
    · obtain ⟨b, off, e, _⟩ := h.at_ h0
      injection e with e
      subst e
      have hadd : (⟨b, off, none⟩ : Addr).add k = ⟨b, off + k, none⟩ := by unfold Addr.add; split <;> simp_all
      rw [Option.map_some, hadd]
      exact h.part k m

set_option maxRecDepth 20000 in
set_option maxHeartbeats 1000000 in
theorem snapCut (i t : Int) (A : Option Addr) (c : Nat) (l : List UInt8) (k : Nat) (w : World) (h : RB w A l) (hlc : l.length ≤ c ∧ c ≤ 9223372036854775807) (hl : l.length ≤ 140737488355328) (hk : k ≤ l.length) :
    Calls Try.prog 15 #[.int .u64 i, .int .u64 t, .slice A l.length c, .int .i64 (k : Int)] w fun e w' => ∃ (p : List UInt8) (P : Option Addr) (d : Nat), Hid (p = chunk l k) ∧ p.length ≤ 256 ∧ e = PieceE i t k (decide (k + (chunk l k).length = l.length)) P p.length d 0 ∧ OB w' w.heap.size P d p ∧ Below w.heap.size w w' := by
  have HBW := Lib.hid ((Below.refl w.heap.size w).alloc (Nat.le_refl _) (Obj.cells #[.int .u64 0, .int .u64 0, .int .i64 0, .bool false, .slice none 0 0] 25))
  have h0 : ¬ (k : Int) < 0 := by omega
  have h1 : ¬ (l.length : Int) < (k : Int) := by omega
  have HR := Lib.hid h
  have hlen : (chunk l k).length = min 256 (l.length - k) := by simp [chunk]
  obtain ⟨q, hq⟩ : ∃ q, q = chunk l k := ⟨_, rfl⟩
  rw [← hq] at hlen
  have HQ := Lib.hid hq
  rw [← hq]
  clear hq
  by_cases hc : (l.length : Int) < (k : Int) + 256
  · have hql : l.length - k = q.length := by omega
    have hd : decide (k + q.length = l.length) = true := by simpa using by omega
    have hq1 : q.length ≤ 256 := by omega
    rw [hd]
    clear hlen
    by_cases hkc : k < c
    · go_enter Try.func15, Try.ntmps15
      go_wp2_with fail
      refine (cloneB (A.map (·.add k)) (c - k) q _ (by rw [HQ.out]; exact (HR.out.sub k 256).below HBW.out) (by omega)).mono ?_
      rintro e w2 ⟨k2, A2, c2, hk2, hk21, hk22, rfl, ho2, hb2⟩
      have hB2 := (Blk.new w _ 25).kept hb2
      have hb2' := HBW.out.trans (hb2.mono HBW.out.size)
      have hne := ho2.blk_ne (k := w.heap.size) (by simp)
      go_wp2_with (refine wpList_store_row rfl 25 (.tmp 8) (.tmp 37) rfl w.heap.size _ rfl rfl _ _ hB2 piece_size rfl (by simp [Value.oneCell']) ?_)
      have hB3 := hB2.setRow #[.int .u64 i, .int .u64 t, .int .i64 (k : Int), .bool true, .slice A2 k2.length c2]
      have h30 := hB3.cell 0 rfl
      have h31 := hB3.cell 1 rfl
      have h32 := hB3.cell 2 rfl
      have h33 := hB3.cell 3 rfl
      have h34 := hB3.cell 4 rfl
      refine bodyPost_ret (v := .tuple #[.agg #[.int .u64 i, .int .u64 t, .int .i64 (k : Int), .bool true, .slice A2 k2.length c2], .int .i64 0]) (by simp [results, Try.results15, go_sem, h30, h31, h32, h33, h34]) rfl ⟨k2, A2, c2, hk2, by omega, rfl, (ho2.base_le (by simp)).setRow hne _, below_setRow hb2' (Nat.le_refl _) _⟩
    · obtain rfl : k = c := by omega
      obtain rfl : q = [] := List.eq_nil_of_length_eq_zero (by omega)
      go_enter Try.func15, Try.ntmps15
      go_wp2_with fail
      refine (cloneB A 0 [] _ ((RB.nil (w := w)).below HBW.out) (by simp)).mono ?_
      rintro e w2 ⟨k2, A2, c2, hk2, hk21, hk22, rfl, ho2, hb2⟩
      have hB2 := (Blk.new w _ 25).kept hb2
      have hb2' := HBW.out.trans (hb2.mono HBW.out.size)
      have hne := ho2.blk_ne (k := w.heap.size) (by simp)
      go_wp2_with (refine wpList_store_row rfl 25 (.tmp 8) (.tmp 37) rfl w.heap.size _ rfl rfl _ _ hB2 piece_size rfl (by simp [Value.oneCell']) ?_)
      have hB3 := hB2.setRow #[.int .u64 i, .int .u64 t, .int .i64 (k : Int), .bool true, .slice A2 k2.length c2]
      have h30 := hB3.cell 0 rfl
      have h31 := hB3.cell 1 rfl
      have h32 := hB3.cell 2 rfl
      have h33 := hB3.cell 3 rfl
      have h34 := hB3.cell 4 rfl
      refine bodyPost_ret (v := .tuple #[.agg #[.int .u64 i, .int .u64 t, .int .i64 (k : Int), .bool true, .slice A2 k2.length c2], .int .i64 0]) (by simp [results, Try.results15, go_sem, h30, h31, h32, h33, h34]) rfl ⟨k2, A2, c2, hk2, by omega, rfl, (ho2.base_le (by simp)).setRow hne _, below_setRow hb2' (Nat.le_refl _) _⟩
  · have hq1 : q.length ≤ 256 := by omega
    have hql : ((k : Int) + 256).toNat - k = q.length := by omega
    have hkc : k < c := by omega
    by_cases hlast : (k : Int) + 256 = (l.length : Int)
    · have hql2 : l.length - k = q.length := by omega
      have hd : decide (k + q.length = l.length) = true := by simpa using by omega
      rw [hd]
      clear hlen
      go_enter Try.func15, Try.ntmps15
      go_wp2_with fail
      refine (cloneB (A.map (·.add k)) (c - k) q _ (by rw [HQ.out]; exact (HR.out.sub k 256).below HBW.out) (by omega)).mono ?_
      rintro e w2 ⟨k2, A2, c2, hk2, hk21, hk22, rfl, ho2, hb2⟩
      have hB2 := (Blk.new w _ 25).kept hb2
      have hb2' := HBW.out.trans (hb2.mono HBW.out.size)
      have hne := ho2.blk_ne (k := w.heap.size) (by simp)
      go_wp2_with (refine wpList_store_row rfl 25 (.tmp 8) (.tmp 37) rfl w.heap.size _ rfl rfl _ _ hB2 piece_size rfl (by simp [Value.oneCell']) ?_)
      have hB3 := hB2.setRow #[.int .u64 i, .int .u64 t, .int .i64 (k : Int), .bool true, .slice A2 k2.length c2]
      have h30 := hB3.cell 0 rfl
      have h31 := hB3.cell 1 rfl
      have h32 := hB3.cell 2 rfl
      have h33 := hB3.cell 3 rfl
      have h34 := hB3.cell 4 rfl
      refine bodyPost_ret (v := .tuple #[.agg #[.int .u64 i, .int .u64 t, .int .i64 (k : Int), .bool true, .slice A2 k2.length c2], .int .i64 0]) (by simp [results, Try.results15, go_sem, h30, h31, h32, h33, h34]) rfl ⟨k2, A2, c2, hk2, by omega, rfl, (ho2.base_le (by simp)).setRow hne _, below_setRow hb2' (Nat.le_refl _) _⟩
    · have hbeq : ((k : Int) + 256 == (l.length : Int)) = false := by simpa using hlast
      have hd : decide (k + q.length = l.length) = false := by simpa using by omega
      rw [hd]
      clear hlen
      go_enter Try.func15, Try.ntmps15
      go_wp2_with fail
      refine (cloneB (A.map (·.add k)) (c - k) q _ (by rw [HQ.out]; exact (HR.out.sub k 256).below HBW.out) (by omega)).mono ?_
      rintro e w2 ⟨k2, A2, c2, hk2, hk21, hk22, rfl, ho2, hb2⟩
      have hB2 := (Blk.new w _ 25).kept hb2
      have hb2' := HBW.out.trans (hb2.mono HBW.out.size)
      have hne := ho2.blk_ne (k := w.heap.size) (by simp)
      go_wp2_with (refine wpList_store_row rfl 25 (.tmp 8) (.tmp 37) rfl w.heap.size _ rfl rfl _ _ hB2 piece_size rfl (by simp [Value.oneCell']) ?_)
      have hB3 := hB2.setRow #[.int .u64 i, .int .u64 t, .int .i64 (k : Int), .bool false, .slice A2 k2.length c2]
      have h30 := hB3.cell 0 rfl
      have h31 := hB3.cell 1 rfl
      have h32 := hB3.cell 2 rfl
      have h33 := hB3.cell 3 rfl
      have h34 := hB3.cell 4 rfl
      refine bodyPost_ret (v := .tuple #[.agg #[.int .u64 i, .int .u64 t, .int .i64 (k : Int), .bool false, .slice A2 k2.length c2], .int .i64 0]) (by simp [results, Try.results15, go_sem, h30, h31, h32, h33, h34]) rfl ⟨k2, A2, c2, hk2, by omega, rfl, (ho2.base_le (by simp)).setRow hne _, below_setRow hb2' (Nat.le_refl _) _⟩
end Go.Proofs.Ytogcdbodlomgeaa
