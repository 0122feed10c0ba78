/- Contracts of the CRC sums: summer.add, codec.Sum, the reference's Sum. -/
import Derived.Test.YtjgonfnpfbifjaaGreatDoorCloneB
import Derived.Test.YtjgonfnpfbifjaaGreatDoorCrcN
import Derived.OneCell
import Derived.RegionTactic
import Derived.BigRegion
import Derived.StillTailTactics
namespace Go.Proofs.YtjgonfnpfbifjaaGreatDoor
open Go.RowKit

/-- Block g is one number, and nothing but it, and what is new, parts w' from w. -/
structure OneN (w w' : World) (g : Nat) (T : TypeId) (k : IntKind) (r : Int) : Prop where
  only : w.grownBy w' (some g)
  blk : w'.heap[g]? = some (.cells #[.int k r] T (0, 0))

theorem OneN.cell {w w' : World} {g : Nat} {T : TypeId} {k : IntKind} {r : Int} (h : OneN w w' g T k r) : w'.cell? ⟨g, 0, none⟩ = some (.int k r) := cell_of_one h.blk
theorem OneN.free {w w' : World} {g : Nat} {T : TypeId} {k : IntKind} {r : Int} (h : OneN w w' g T k r) : w'.frozen? ⟨g, 0, none⟩ = false := free_of_one h.blk
theorem OneN.lt {w w' : World} {g : Nat} {T : TypeId} {k : IntKind} {r : Int} (h : OneN w w' g T k r) : g < w'.heap.size := lt_of_block h.blk
theorem OneN.drewN {w w' : World} {g : Nat} {T : TypeId} {k : IntKind} {r : Int} (h : OneN w w' g T k r) (n : Nat) : OneN w (w'.drewN n) g T k r := ⟨⟨h.only.os, h.only.tape, h.only.output, h.only.size, h.only.block⟩, h.blk⟩
theorem OneN.drew {w w' : World} {g : Nat} {T : TypeId} {k : IntKind} {r : Int} (h : OneN w w' g T k r) : OneN w w'.drew g T k r := ⟨⟨h.only.os, h.only.tape, h.only.output, h.only.size, h.only.block⟩, h.blk⟩
theorem OneN.set {w w' : World} {g : Nat} {T : TypeId} {k : IntKind} {r : Int} (h : OneN w w' g T k r) (s : Int) : OneN w (w'.setCell ⟨g, 0, none⟩ (.int k s)) g T k s :=
  ⟨⟨h.only.os, h.only.tape, h.only.output, by simpa [World.setCell] using h.only.size, fun i hi hne => (Below.heap_setCell w' ⟨g, 0, none⟩ _ i (fun e => hne (by rw [e]))).trans (h.only.block i hi hne)⟩, one_setCell h.blk⟩
theorem OneN.refl {w : World} {g : Nat} {T : TypeId} {k : IntKind} {r : Int} (h : w.heap[g]? = some (.cells #[.int k r] T (0, 0))) : OneN w w g T k r := ⟨World.grownBy.refl w _, h⟩
theorem RB.one_ {w w' : World} {A : Option Addr} {l : List UInt8} {g : Nat} {T : TypeId} {k : IntKind} {r : Int} (h : RB w A l) (hne : ∀ b off, 0 < l.length → A = some ⟨b, off, none⟩ → b ≠ g) (ho : OneN w w' g T k r) : RB w' A l :=
  h.keep ho.only.size fun b off hn e hb _ => World.cell?_of_block (w := w) (ho.only.block b hb (fun e' => hne b off hn e (by injection e')))

set_option maxHeartbeats 1000000 in
theorem summerAdd (g : Nat) (r : Nat) (A : Option Addr) (c : Nat) (l : List UInt8) (w : World) (hr : r < 4294967296) (hg : w.heap[g]? = some (.cells #[.int .u32 (r : Int)] 131 (0, 0))) (h : RB w A l) (hne : ∀ b off, 0 < l.length → A = some ⟨b, off, none⟩ → b ≠ g) (hl : l.length ≤ 9223372036854775807) :
    Calls Tryz.prog 83 #[.pointer (some ⟨g, 0, none⟩), .slice A l.length c] w fun e w' => e = .returned (.tuple #[]) ∧ OneN w w' g 131 .u32 (crcL r l) := by
  go_enter Tryz.func83, Tryz.ntmps83
  go_wp2_with fail
  go_loopw [8] (fun i wr => ∃ k : Nat, k ≤ l.length ∧ i = .int .i64 (k : Int) ∧ OneN w wr g 131 .u32 (crcL r (l.take k)))
    (fun i _ => l.length - (intOf i).toNat)
  case atStart => exact ⟨0, Nat.zero_le _, rfl, by simpa [crcL] using OneN.refl hg⟩
  case round =>
    obtain ⟨k, hk, rfl, ho⟩ := hrel
    by_cases hlt : k < l.length
    · obtain ⟨b, off, rfl, hb, hc⟩ := (h.one_ hne ho).cell hlt
      have hcg := ho.cell
      have hfg := ho.free
      have hs : crcL r (l.take k) < 4294967296 := crcL_lt hr _
      obtain ⟨s, hs'⟩ : ∃ s, s = crcL r (l.take k) := ⟨_, rfl⟩
      rw [← hs'] at hs hcg ho
      have HS := Lib.hid hs'
      clear hs'
      obtain ⟨x, hx'⟩ : ∃ x, x = l[k] := ⟨_, rfl⟩
      rw [← hx'] at hc
      have HX := Lib.hid hx'
      clear hx'
      have hxx := x.toNat_lt
      have e1 : bits BinOp.xor IntKind.u32 (s : Int) (x.toNat : Int) = ((s ^^^ x.toNat : Nat) : Int) := u32_xor_nat _ _ hs (by omega)
      go_wp2_with fail
      obtain ⟨wo, rfl⟩ : ∃ wo : World, wo = wr := ⟨_, rfl⟩
      clear hc hcg hfg e1
      go_loopw [21] (fun i wr => ∃ j : Nat, j ≤ 8 ∧ i = .int .i64 (j : Int) ∧ OneN w wr g 131 .u32 (crcBits j (s ^^^ x.toNat)))
        (fun i _ => 8 - (intOf i).toNat)
      case atStart => exact ⟨0, Nat.zero_le _, rfl, ho.set _⟩
      case round =>
        obtain ⟨j, hj, rfl, hoj⟩ := hrel
        by_cases hj8 : j < 8
        · have hcg := hoj.cell
          have hfg := hoj.free
          have hq : crcBits j (s ^^^ x.toNat) < 4294967296 := crcBits_lt j (xor_lt hs (by omega))
          obtain ⟨q, hq'⟩ : ∃ q, q = crcBits j (s ^^^ x.toNat) := ⟨_, rfl⟩
          rw [← hq'] at hq hcg hoj
          have HQ := Lib.hid hq'
          clear hq'
          have hx1 : bits BinOp.xor IntKind.u32 ((q : Int) / 2) 3988292384 = ((q / 2 ^^^ 3988292384 : Nat) : Int) := u32_xor_nat (q / 2) 3988292384 (by omega) (by omega)
          have hx0 : bits BinOp.xor IntKind.u32 ((q : Int) / 2) 0 = ((q / 2 ^^^ 0 : Nat) : Int) := u32_xor_nat (q / 2) 0 (by omega) (by omega)
          have ha : bits BinOp.and IntKind.u32 (q : Int) 1 = ((q &&& 1 : Nat) : Int) := u32_and_nat q 1 hq (by omega)
          rw [nat_mask1] at ha
          have hb1 : bits BinOp.and IntKind.u32 4294967295 3988292384 = 3988292384 := by decide
          have hb0 : bits BinOp.and IntKind.u32 0 3988292384 = 0 := by decide
          have hn1 : IntKind.u32.wrap (-1) = 4294967295 := by decide
          rcases Nat.mod_two_eq_zero_or_one q with hm | hm
          · have HM := Lib.hid hm
            rw [hm] at ha
            clear hm
            go_wp2_with fail
            go_region
            go_wp2_with fail
            go_roundw
            case rel => exact ⟨j + 1, by omega, by go_num, by
              rw [crcBits_succ, ← HQ.out, crcBit, HM.out]
              rw [show ((q / 2 ^^^ (if 0 = 1 then poly else 0) : Nat) : Int) = (q : Int) / 2 from by simp]
              exact (hoj.set _).drew⟩
            case measure => simp [intOf]; omega
          · have HM := Lib.hid hm
            rw [hm] at ha
            clear hm
            go_wp2_with fail
            go_region
            go_wp2_with fail
            go_roundw
            case rel => exact ⟨j + 1, by omega, by go_num, by
              rw [crcBits_succ, ← HQ.out, crcBit, HM.out]; exact (hoj.set _).drew⟩
            case measure => simp [intOf]; omega
        · obtain rfl : j = 8 := by omega
          have hfin : crcBits 8 (s ^^^ x.toNat) = crcL r (l.take (k + 1)) := by
            rw [List.take_succ_eq_append_getElem hlt, crcL_snoc, ← HS.out, ← HX.out, crcByte]
          rw [hfin] at hoj
          clear hfin
          go_wp2_with fail
          go_roundw
          case rel => exact ⟨k + 1, by omega, by go_num, hoj⟩
          case measure => simp [intOf]; omega
    · go_wp2_with fail
      go_end0
      exact ⟨rfl, by rw [List.take_of_length_le (by omega)] at ho; exact ho⟩

def allB (L : List (Option Addr × Nat × List UInt8)) : List UInt8 := L.flatMap fun t => t.2.2

set_option maxHeartbeats 1000000 in
theorem codecSum (X : Option Addr) (c : Nat) (L : List (Option Addr × Nat × List UInt8)) (w : World) (h : RBB w X L) (hl : L.length ≤ 9223372036854775807) :
    Calls Tryz.prog 57 #[.slice X L.length c] w fun e w' => e = .returned (.int .u32 (crc (allB L))) ∧ Below w.heap.size w w' := by
  go_enter Tryz.func57, Tryz.ntmps57
  go_wp2_with fail
  have hw0 : Below w.heap.size w (w.alloc (.cells #[.int .u32 4294967295] 131)) := (Below.refl _ _).alloc (Nat.le_refl _) _
  have hg0 : (w.alloc (.cells #[.int .u32 4294967295] 131)).heap[w.heap.size]? = some (.cells #[.int .u32 4294967295] 131 (0, 0)) := heap_alloc_new w _
  have ho0 : OneN (w.alloc (.cells #[.int .u32 4294967295] 131)) (w.alloc (.cells #[.int .u32 4294967295] 131)) w.heap.size 131 .u32 (crcL 4294967295 (allB (L.take 0))) := OneN.refl hg0
  generalize w.alloc (.cells #[.int .u32 4294967295] 131) = w0 at hw0 hg0 ho0 ⊢
  clear hg0
  go_loopw [9] (fun i wr => ∃ k : Nat, k ≤ L.length ∧ i = .int .i64 (k : Int) ∧ OneN w0 wr w.heap.size 131 .u32 (crcL 4294967295 (allB (L.take k))))
    (fun i _ => L.length - (intOf i).toNat)
  case atStart => exact ⟨0, Nat.zero_le _, rfl, ho0⟩
  case round =>
    obtain ⟨k, hk, rfl, ho⟩ := hrel
    have hb : Below w.heap.size w wr := hw0.grown ho.only hw0.size (fun g hg => by injection hg with hg; omega)
    by_cases hlt : k < L.length
    · obtain ⟨b, off, rfl, hbl, hc⟩ := (h.below hb).cell hlt
      obtain ⟨hr1, hr2⟩ := h.each L[k] (List.getElem_mem hlt)
      have hr1' := hr1.below hb
      have hfar : ∀ b off, 0 < L[k].2.2.length → L[k].1 = some ⟨b, off, none⟩ → b ≠ w.heap.size := by
        intro b off hpos e
        obtain ⟨b', off', e', hb', _⟩ := hr1.at_ hpos
        rw [e] at e'
        injection e' with e'
        injection e' with e'
        omega
      have hs : crcL 4294967295 (allB (L.take k)) < 4294967296 := crcL_lt (by omega) _
      obtain ⟨s, hs'⟩ : ∃ s, s = crcL 4294967295 (allB (L.take k)) := ⟨_, rfl⟩
      rw [← hs'] at hs ho
      have HS := Lib.hid hs'
      have C := Lib.hid (summerAdd w.heap.size s L[k].1 L[k].2.1 L[k].2.2 wr hs ho.blk hr1' hfar (by omega))
      have HN : Hid (crcL s L[k].2.2 = crcL 4294967295 (allB (L.take (k + 1)))) := Lib.hid (by
        rw [List.take_succ_eq_append_getElem hlt, HS.out]; unfold allB; rw [List.flatMap_append, crcL_append]; simp)
      clear hs' hfar hr1 hr1' hr2 HS
      go_wp2_with fail
      refine C.out.mono ?_
      rintro e w' ⟨rfl, ho'⟩
      rw [HN.out] at ho'
      have ho2 : OneN w0 w' w.heap.size 131 .u32 (crcL 4294967295 (allB (L.take (k + 1)))) :=
        ⟨⟨ho'.only.os.trans ho.only.os, ho'.only.tape.trans ho.only.tape, ho'.only.output.trans ho.only.output, Nat.le_trans ho.only.size ho'.only.size, fun i hi hne => (ho'.only.block i (Nat.lt_of_lt_of_le hi ho.only.size) hne).trans (ho.only.block i hi hne)⟩, ho'.blk⟩
      clear C HN ho' ho hc hb
      go_wp2_with fail
      go_roundw
      case rel => exact ⟨k + 1, by omega, by go_num, ho2⟩
      case measure => simp [intOf]; omega
    · rw [List.take_of_length_le (by omega)] at ho
      have hcg := ho.cell
      have hs : crcL 4294967295 (allB L) < 4294967296 := crcL_lt (by omega) _
      have hfin : Hid (crc (allB L) = 4294967295 - crcL 4294967295 (allB L)) := Lib.hid rfl
      generalize crcL 4294967295 (allB L) = s at *
      clear ho
      go_wp2_with fail
      go_ret
      exact ⟨ret_intB (by rw [show IntKind.u32.max = ((4294967295 : Nat) : Int) from rfl, u32_xor_nat _ _ (by omega) hs, ones_xor s hs, hfin.out]), hb⟩
end Go.Proofs.YtjgonfnpfbifjaaGreatDoor
