/- Put together of: ReadNum, BackNum, Crc, Frame, ScrNum, ScrRd, SlotNum, Laid. -/
import Derived.Test.YtobdmlejabjmiaaGreatDoorZa09
import Derived.Test.YtobdmlejabjmiaaGreatDoorZa02
import Derived.OneCell
import Derived.RegionTactic
import Derived.BigRegion
import Derived.StillTailTactics
import Derived.Lib.ItoaMem
import Derived.Lib.ParseIntBCases
import Derived.Lib.Split
import Derived.Test.YtobdmlejabjmiaaGreatDoorZa03
import Derived.Lib.LaidTab
import Derived.MakeChecks
import Derived.Below
/- Plain: numbers, lists and frames read out of bytes: no program. -/
namespace Go.Proofs.YtobdmlejabjmiaaGreatDoor

/-- Bytes as a number, the highest first. -/
def unB (l : List UInt8) : Nat := l.foldl (fun n x => n * 256 + x.toNat) 0
theorem unB_acc (l : List UInt8) : ∀ n, l.foldl (fun n x => n * 256 + x.toNat) n = n * 256 ^ l.length + unB l ∧ unB l < 256 ^ l.length := by
  induction l with
  | nil => intro n; simp [unB]
  | cons x l ih =>
    have hx := x.toNat_lt
    have h0 := ih x.toNat
    have e0 : unB (x :: l) = x.toNat * 256 ^ l.length + unB l := by
      show l.foldl _ (0 * 256 + x.toNat) = _
      rw [Nat.zero_mul, Nat.zero_add]
      exact h0.1
    have hlt : unB (x :: l) < 256 ^ (x :: l).length := by
      rw [e0, List.length_cons, Nat.pow_succ]
      have : x.toNat * 256 ^ l.length ≤ 255 * 256 ^ l.length := Nat.mul_le_mul_right _ (by omega)
      omega
    intro n
    refine ⟨?_, hlt⟩
    rw [List.foldl_cons, (ih _).1, e0, List.length_cons, Nat.pow_succ, Nat.add_mul]
    rw [Nat.mul_comm (256 ^ l.length) 256, Nat.mul_assoc]
    omega
theorem unB_lt (l : List UInt8) : unB l < 256 ^ l.length := (unB_acc l 0).2
/-- What stands at the head: the number, how many bytes, the error. -/
def numH (l : List UInt8) : Nat × Nat × Nat :=
  if 0 < l.length then
    (if 8 < (l.getD 0 0).toNat ∨ (1 < l.length ∧ 0 < (l.getD 0 0).toNat ∧ (l.getD 1 0).toNat = 0) then (0, 0, 4)
     else if l.length ≤ (l.getD 0 0).toNat then (0, 0, 5) else (unB ((l.drop 1).take (l.getD 0 0).toNat), 1 + (l.getD 0 0).toNat, 0))
  else (0, 0, 5)
/-- The number at a place, the place behind it, the error. -/
def numAt (b : List UInt8) (i : Int) : Int × Int × Int :=
  if 0 ≤ i ∧ i ≤ (b.length : Int) then
    (if (numH (b.drop i.toNat)).2.2 = 0 then (((numH (b.drop i.toNat)).1 : Int), i + ((numH (b.drop i.toNat)).2.1 : Int), 0) else (0, 0, ((numH (b.drop i.toNat)).2.2 : Int)))
  else (0, 0, 1)

/-- The list at a place. -/
def bytesAt (b : List UInt8) (i : Int) : List UInt8 × Int × Int :=
  if (numAt b i).2.2 = 0 then
    (if (numAt b i).2.1 + (numAt b i).1 ≤ (b.length : Int) then ((b.drop (numAt b i).2.1.toNat).take (numAt b i).1.toNat, (numAt b i).2.1 + (numAt b i).1, 0) else ([], 0, 5))
  else ([], 0, (numAt b i).2.2)

/-- Four bytes and a number below 2^32. -/
def four4 (n : Nat) : List UInt8 := [UInt8.ofNat (n / 16777216), UInt8.ofNat (n / 65536 % 256), UInt8.ofNat (n / 256 % 256), UInt8.ofNat (n % 256)]
/-- The data of a frame at a place. -/
def unfrAt (b : List UInt8) (i : Int) : List UInt8 × Int × Int :=
  if 0 ≤ i ∧ i ≤ (b.length : Int) then
    (if (b.length : Int) - i < 8 then ([], 0, 5)
     else if 65536 < unB ((b.drop i.toNat).take 4) then ([], 0, 7)
     else if (b.length : Int) - i - 8 < (unB ((b.drop i.toNat).take 4) : Int) then ([], 0, 5)
     else if crc ((b.drop i.toNat).take 4 ++ (b.drop (i.toNat + 8)).take (unB ((b.drop i.toNat).take 4))) = unB ((b.drop (i.toNat + 4)).take 4) then ((b.drop (i.toNat + 8)).take (unB ((b.drop i.toNat).take 4)), i + 8 + (unB ((b.drop i.toNat).take 4) : Int), 0)
     else ([], 0, 6))
  else ([], 0, 1)
end Go.Proofs.YtobdmlejabjmiaaGreatDoor


/- Plain: what was written is read: no program. -/
namespace Go.Proofs.YtobdmlejabjmiaaGreatDoor

end Go.Proofs.YtobdmlejabjmiaaGreatDoor


/- Contracts of the CRC sums: summer.add, codec.Sum, the reference's Sum. -/
namespace Go.Proofs.YtobdmlejabjmiaaGreatDoor
open Go.RowKit

/-- Block g is one number, and nothing but it, and what is new, parts w' from w. -/
structure OneN (w w' : World) (g : Nat) (T : TypeId) (k : IntKind) (r : Int) : Prop where
  only : w.grownBy w' (some g)
  blk : w'.heap[g]? = some (.cells #[.int k r] T (0, 0))

theorem OneN.cell {w w' : World} {g : Nat} {T : TypeId} {k : IntKind} {r : Int} (h : OneN w w' g T k r) : w'.cell? ⟨g, 0, none⟩ = some (.int k r) := cell_of_one h.blk
theorem OneN.free {w w' : World} {g : Nat} {T : TypeId} {k : IntKind} {r : Int} (h : OneN w w' g T k r) : w'.frozen? ⟨g, 0, none⟩ = false := free_of_one h.blk
theorem OneN.lt {w w' : World} {g : Nat} {T : TypeId} {k : IntKind} {r : Int} (h : OneN w w' g T k r) : g < w'.heap.size := lt_of_block h.blk
theorem OneN.drewN {w w' : World} {g : Nat} {T : TypeId} {k : IntKind} {r : Int} (h : OneN w w' g T k r) (n : Nat) : OneN w (w'.drewN n) g T k r := ⟨⟨h.only.os, h.only.tape, h.only.output, h.only.size, h.only.block⟩, h.blk⟩
theorem OneN.drew {w w' : World} {g : Nat} {T : TypeId} {k : IntKind} {r : Int} (h : OneN w w' g T k r) : OneN w w'.drew g T k r := ⟨⟨h.only.os, h.only.tape, h.only.output, h.only.size, h.only.block⟩, h.blk⟩
theorem OneN.set {w w' : World} {g : Nat} {T : TypeId} {k : IntKind} {r : Int} (h : OneN w w' g T k r) (s : Int) : OneN w (w'.setCell ⟨g, 0, none⟩ (.int k s)) g T k s :=
  ⟨⟨h.only.os, h.only.tape, h.only.output, by simpa [World.setCell] using h.only.size, fun i hi hne => (Below.heap_setCell w' ⟨g, 0, none⟩ _ i (fun e => hne (by rw [e]))).trans (h.only.block i hi hne)⟩, one_setCell h.blk⟩
theorem OneN.refl {w : World} {g : Nat} {T : TypeId} {k : IntKind} {r : Int} (h : w.heap[g]? = some (.cells #[.int k r] T (0, 0))) : OneN w w g T k r := ⟨World.grownBy.refl w _, h⟩
theorem RB.one_ {w w' : World} {A : Option Addr} {l : List UInt8} {g : Nat} {T : TypeId} {k : IntKind} {r : Int} (h : RB w A l) (hne : ∀ b off, 0 < l.length → A = some ⟨b, off, none⟩ → b ≠ g) (ho : OneN w w' g T k r) : RB w' A l :=
  h.keep ho.only.size fun b off hn e hb _ => World.cell?_of_block (w := w) (ho.only.block b hb (fun e' => hne b off hn e (by injection e')))

set_option maxHeartbeats 1000000 in
theorem summerAdd (g : Nat) (r : Nat) (A : Option Addr) (c : Nat) (l : List UInt8) (w : World) (hr : r < 4294967296) (hg : w.heap[g]? = some (.cells #[.int .u32 (r : Int)] 245 (0, 0))) (h : RB w A l) (hne : ∀ b off, 0 < l.length → A = some ⟨b, off, none⟩ → b ≠ g) (hl : l.length ≤ 9223372036854775807) :
    Calls Tryz.prog 176 #[.pointer (some ⟨g, 0, none⟩), .slice A l.length c] w fun e w' => e = .returned (.tuple #[]) ∧ OneN w w' g 245 .u32 (crcL r l) := by
  go_enter Tryz.func176, Tryz.ntmps176
  go_wp2_with fail
  go_loopw [8] (fun i wr => ∃ k : Nat, k ≤ l.length ∧ i = .int .i64 (k : Int) ∧ OneN w wr g 245 .u32 (crcL r (l.take k)))
    (fun i _ => l.length - (intOf i).toNat)
  case atStart => exact ⟨0, Nat.zero_le _, rfl, by simpa [crcL] using OneN.refl hg⟩
  case round =>
    obtain ⟨k, hk, rfl, ho⟩ := hrel
    by_cases hlt : k < l.length
    · obtain ⟨b, off, rfl, hb, hc⟩ := (h.one_ hne ho).cell hlt
      have hcg := ho.cell
      have hfg := ho.free
      have hs : crcL r (l.take k) < 4294967296 := crcL_lt hr _
      obtain ⟨s, hs'⟩ : ∃ s, s = crcL r (l.take k) := ⟨_, rfl⟩
      rw [← hs'] at hs hcg ho
      have HS := Lib.hid hs'
      clear hs'
      obtain ⟨x, hx'⟩ : ∃ x, x = l[k] := ⟨_, rfl⟩
      rw [← hx'] at hc
      have HX := Lib.hid hx'
      clear hx'
      have hxx := x.toNat_lt
      have e1 : bits BinOp.xor IntKind.u32 (s : Int) (x.toNat : Int) = ((s ^^^ x.toNat : Nat) : Int) := u32_xor_nat _ _ hs (by omega)
      go_wp2_with fail
      obtain ⟨wo, rfl⟩ : ∃ wo : World, wo = wr := ⟨_, rfl⟩
      clear hc hcg hfg e1
      go_loopw [21] (fun i wr => ∃ j : Nat, j ≤ 8 ∧ i = .int .i64 (j : Int) ∧ OneN w wr g 245 .u32 (crcBits j (s ^^^ x.toNat)))
        (fun i _ => 8 - (intOf i).toNat)
      case atStart => exact ⟨0, Nat.zero_le _, rfl, ho.set _⟩
      case round =>
        obtain ⟨j, hj, rfl, hoj⟩ := hrel
        by_cases hj8 : j < 8
        · have hcg := hoj.cell
          have hfg := hoj.free
          have hq : crcBits j (s ^^^ x.toNat) < 4294967296 := crcBits_lt j (xor_lt hs (by omega))
          obtain ⟨q, hq'⟩ : ∃ q, q = crcBits j (s ^^^ x.toNat) := ⟨_, rfl⟩
          rw [← hq'] at hq hcg hoj
          have HQ := Lib.hid hq'
          clear hq'
          have hx1 : bits BinOp.xor IntKind.u32 ((q : Int) / 2) 3988292384 = ((q / 2 ^^^ 3988292384 : Nat) : Int) := u32_xor_nat (q / 2) 3988292384 (by omega) (by omega)
          have hx0 : bits BinOp.xor IntKind.u32 ((q : Int) / 2) 0 = ((q / 2 ^^^ 0 : Nat) : Int) := u32_xor_nat (q / 2) 0 (by omega) (by omega)
          have ha : bits BinOp.and IntKind.u32 (q : Int) 1 = ((q &&& 1 : Nat) : Int) := u32_and_nat q 1 hq (by omega)
          rw [nat_mask1] at ha
          have hb1 : bits BinOp.and IntKind.u32 4294967295 3988292384 = 3988292384 := by decide
          have hb0 : bits BinOp.and IntKind.u32 0 3988292384 = 0 := by decide
          have hn1 : IntKind.u32.wrap (-1) = 4294967295 := by decide
          rcases Nat.mod_two_eq_zero_or_one q with hm | hm
          · have HM := Lib.hid hm
            rw [hm] at ha
            clear hm
            go_wp2_with fail
            go_region
            go_wp2_with fail
            go_roundw
            case rel => exact ⟨j + 1, by omega, by go_num, by
              rw [crcBits_succ, ← HQ.out, crcBit, HM.out]
              rw [show ((q / 2 ^^^ (if 0 = 1 then poly else 0) : Nat) : Int) = (q : Int) / 2 from by simp]
              exact (hoj.set _).drew⟩
            case measure => simp [intOf]; omega
          · have HM := Lib.hid hm
            rw [hm] at ha
            clear hm
            go_wp2_with fail
            go_region
            go_wp2_with fail
            go_roundw
            case rel => exact ⟨j + 1, by omega, by go_num, by
              rw [crcBits_succ, ← HQ.out, crcBit, HM.out]; exact (hoj.set _).drew⟩
            case measure => simp [intOf]; omega
        · obtain rfl : j = 8 := by omega
          have hfin : crcBits 8 (s ^^^ x.toNat) = crcL r (l.take (k + 1)) := by
            rw [List.take_succ_eq_append_getElem hlt, crcL_snoc, ← HS.out, ← HX.out, crcByte]
          rw [hfin] at hoj
          clear hfin
          go_wp2_with fail
          go_roundw
          case rel => exact ⟨k + 1, by omega, by go_num, hoj⟩
          case measure => simp [intOf]; omega
    · go_wp2_with fail
      go_end0
      exact ⟨rfl, by rw [List.take_of_length_le (by omega)] at ho; exact ho⟩

def allB (L : List (Option Addr × Nat × List UInt8)) : List UInt8 := L.flatMap fun t => t.2.2

set_option maxHeartbeats 1000000 in
theorem codecSum (X : Option Addr) (c : Nat) (L : List (Option Addr × Nat × List UInt8)) (w : World) (h : RBB w X L) (hl : L.length ≤ 9223372036854775807) :
    Calls Tryz.prog 126 #[.slice X L.length c] w fun e w' => e = .returned (.int .u32 (crc (allB L))) ∧ Below w.heap.size w w' := by
  go_enter Tryz.func126, Tryz.ntmps126
  go_wp2_with fail
  have hw0 : Below w.heap.size w (w.alloc (.cells #[.int .u32 4294967295] 245)) := (Below.refl _ _).alloc (Nat.le_refl _) _
  have hg0 : (w.alloc (.cells #[.int .u32 4294967295] 245)).heap[w.heap.size]? = some (.cells #[.int .u32 4294967295] 245 (0, 0)) := heap_alloc_new w _
  have ho0 : OneN (w.alloc (.cells #[.int .u32 4294967295] 245)) (w.alloc (.cells #[.int .u32 4294967295] 245)) w.heap.size 245 .u32 (crcL 4294967295 (allB (L.take 0))) := OneN.refl hg0
  generalize w.alloc (.cells #[.int .u32 4294967295] 245) = w0 at hw0 hg0 ho0 ⊢
  clear hg0
  go_loopw [9] (fun i wr => ∃ k : Nat, k ≤ L.length ∧ i = .int .i64 (k : Int) ∧ OneN w0 wr w.heap.size 245 .u32 (crcL 4294967295 (allB (L.take k))))
    (fun i _ => L.length - (intOf i).toNat)
  case atStart => exact ⟨0, Nat.zero_le _, rfl, ho0⟩
  case round =>
    obtain ⟨k, hk, rfl, ho⟩ := hrel
    have hb : Below w.heap.size w wr := hw0.grown ho.only hw0.size (fun g hg => by injection hg with hg; omega)
    by_cases hlt : k < L.length
    · obtain ⟨b, off, rfl, hbl, hc⟩ := (h.below hb).cell hlt
      obtain ⟨hr1, hr2⟩ := h.each L[k] (List.getElem_mem hlt)
      have hr1' := hr1.below hb
      have hfar : ∀ b off, 0 < L[k].2.2.length → L[k].1 = some ⟨b, off, none⟩ → b ≠ w.heap.size := by
        intro b off hpos e
        obtain ⟨b', off', e', hb', _⟩ := hr1.at_ hpos
        rw [e] at e'
        injection e' with e'
        injection e' with e'
        omega
      have hs : crcL 4294967295 (allB (L.take k)) < 4294967296 := crcL_lt (by omega) _
      obtain ⟨s, hs'⟩ : ∃ s, s = crcL 4294967295 (allB (L.take k)) := ⟨_, rfl⟩
      rw [← hs'] at hs ho
      have HS := Lib.hid hs'
      have C := Lib.hid (summerAdd w.heap.size s L[k].1 L[k].2.1 L[k].2.2 wr hs ho.blk hr1' hfar (by omega))
      have HN : Hid (crcL s L[k].2.2 = crcL 4294967295 (allB (L.take (k + 1)))) := Lib.hid (by
        rw [List.take_succ_eq_append_getElem hlt, HS.out]; unfold allB; rw [List.flatMap_append, crcL_append]; simp)
      clear hs' hfar hr1 hr1' hr2 HS
      go_wp2_with fail
      refine C.out.mono ?_
      rintro e w' ⟨rfl, ho'⟩
      rw [HN.out] at ho'
      have ho2 : OneN w0 w' w.heap.size 245 .u32 (crcL 4294967295 (allB (L.take (k + 1)))) :=
        ⟨⟨ho'.only.os.trans ho.only.os, ho'.only.tape.trans ho.only.tape, ho'.only.output.trans ho.only.output, Nat.le_trans ho.only.size ho'.only.size, fun i hi hne => (ho'.only.block i (Nat.lt_of_lt_of_le hi ho.only.size) hne).trans (ho.only.block i hi hne)⟩, ho'.blk⟩
      clear C HN ho' ho hc hb
      go_wp2_with fail
      go_roundw
      case rel => exact ⟨k + 1, by omega, by go_num, ho2⟩
      case measure => simp [intOf]; omega
    · rw [List.take_of_length_le (by omega)] at ho
      have hcg := ho.cell
      have hs : crcL 4294967295 (allB L) < 4294967296 := crcL_lt (by omega) _
      have hfin : Hid (crc (allB L) = 4294967295 - crcL 4294967295 (allB L)) := Lib.hid rfl
      generalize crcL 4294967295 (allB L) = s at *
      clear ho
      go_wp2_with fail
      go_ret
      exact ⟨ret_intB (by rw [show IntKind.u32.max = ((4294967295 : Nat) : Int) from rfl, u32_xor_nat _ _ (by omega) hs, ones_xor s hs, hfin.out]), hb⟩
end Go.Proofs.YtobdmlejabjmiaaGreatDoor


/- Contracts of four, Frame and the reference's. -/
namespace Go.Proofs.YtobdmlejabjmiaaGreatDoor
open Go.RowKit

/-- A number in four bytes. -/
def fourB (n : Nat) : List UInt8 := [UInt8.ofNat (n / 16777216), UInt8.ofNat (n / 65536 % 256), UInt8.ofNat (n / 256 % 256), UInt8.ofNat (n % 256)]
/-- Data in a frame. -/
def frameB (d : List UInt8) : List UInt8 := fourB d.length ++ fourB (crc (fourB d.length ++ d)) ++ d
theorem fourB_len (n : Nat) : (fourB n).length = 4 := rfl
theorem u8_ofNat {n : Nat} (h : n < 256) : ((UInt8.ofNat n).toNat : Int) = (n : Int) := by
  rw [UInt8.toNat_ofNat']; omega

theorem OB.lit4 (w : World) {base : Nat} (hb : base ≤ w.heap.size) (x0 x1 x2 x3 : UInt8) {V0 V1 V2 V3 : Int} (h0 : V0 = (x0.toNat : Int)) (h1 : V1 = (x1.toNat : Int)) (h2 : V2 = (x2.toNat : Int)) (h3 : V3 = (x3.toNat : Int)) :
    OB (w.alloc (.cells #[.int .u8 V0, .int .u8 V1, .int .u8 V2, .int .u8 V3] 5)) base (some ⟨w.heap.size, 0, none⟩) 4 [x0, x1, x2, x3] := by
  subst h0; subst h1; subst h2; subst h3
  exact World.ownsRow_lit w (bcells [x0, x1, x2, x3]).toArray 4 hb (by unfold maxLen; omega) rfl

set_option maxHeartbeats 400000 in
theorem codecFour (n : Int) (w : World) (h0 : 0 ≤ n) (h1 : n ≤ 4294967295) :
    Calls Tryz.prog 152 #[.int .u32 n] w (NewB w (fourB n.toNat)) := by
  obtain ⟨m, rfl⟩ := Int.eq_ofNat_of_zero_le h0
  go_enter Tryz.func152, Tryz.ntmps152
  go_wp2_with fail
  go_ret
  refine newB (k := [UInt8.ofNat (m / 16777216), UInt8.ofNat (m / 65536 % 256), UInt8.ofNat (m / 256 % 256), UInt8.ofNat (m % 256)]) (by simp [fourB]) (OB.lit4 w (Nat.le_refl _) _ _ _ _ ?_ ?_ ?_ ?_) ((Below.refl _ _).alloc (Nat.le_refl _) _)
  all_goals (rw [u8_ofNat (by omega)]; omega)

/-- What a function that answers new bytes and an error ends in. -/
def NewBE (w : World) (l : List UInt8) (err : Int) (e : Ending) (w' : World) : Prop :=
  ∃ (k : List UInt8) (A : Option Addr) (c : Nat), Hid (k = l) ∧ k.length ≤ l.length ∧ l.length ≤ k.length ∧ e = .returned (.tuple #[.slice A k.length c, .int .i64 err]) ∧ OB w' w.heap.size A c k ∧ Below w.heap.size w w'
theorem newBE {w w' : World} {l k : List UInt8} {A : Option Addr} {c : Nat} {err : Int} (hk : k = l) (h : OB w' w.heap.size A c k) (hb : Below w.heap.size w w') : NewBE w l err (.returned (.tuple #[.slice A k.length c, .int .i64 err])) w' :=
  ⟨k, A, c, Lib.hid hk, by rw [hk]; exact Nat.le_refl _, by rw [hk]; exact Nat.le_refl _, rfl, h, hb⟩
theorem crc_le (l : List UInt8) : crc l ≤ 4294967295 := by unfold crc; omega
theorem frameB_len (d : List UInt8) : (frameB d).length = 8 + d.length := by simp [frameB, fourB]; omega

set_option maxHeartbeats 1000000 in
theorem codecFrame (A : Option Addr) (c : Nat) (d : List UInt8) (w : World) (h : RB w A d) (hl : d.length ≤ 65536) :
    Calls Tryz.prog 87 #[.slice A d.length c] w (NewBE w (frameB d) 0) := by
  have h1 : ¬ (65536 : Int) < (d.length : Int) := by omega
  go_enter Tryz.func87, Tryz.ntmps87
  go_wp2_with fail
  refine (codecFour d.length w (by omega) (by omega)).mono ?_
  rintro e w1 ⟨k1, A1, c1, hk1, hk11, hk12, rfl, ho1, hb1⟩
  have hk1l : k1.length = 4 := by rw [hk1.out]; rfl
  have hk1l1 : k1.length ≤ 4 := by omega
  have hk1l2 : 4 ≤ k1.length := by omega
  have E1 : Hid (k1 = fourB d.length) := Lib.hid (by rw [hk1.out, Int.toNat_natCast])
  clear hk1 hk11 hk12 hk1l
  go_wp2_with fail
  have C2 := codecSum (some ⟨w1.heap.size, 0, none⟩) 2 [(A1, c1, k1), (A, c, d)] _ (RBB.two_at _ c1 c rfl ho1.rb (h.below hb1) (by omega) (by omega)) (by simp)
  have hall : allB [(A1, c1, k1), (A, c, d)] = k1 ++ d := by simp [allB]
  rw [hall] at C2
  have hcr := crc_le (k1 ++ d)
  obtain ⟨s, hs⟩ : ∃ s, s = crc (k1 ++ d) := ⟨_, rfl⟩
  rw [← hs] at C2 hcr
  have HS := Lib.hid hs
  clear hs hall
  refine C2.mono ?_
  rintro e w2 ⟨rfl, hb2⟩
  clear C2
  have B2 : Below w.heap.size w w2 := (hb1.alloc hb1.size _).trans (hb2.mono (by have := hb1.size; simp; omega))
  have ho2 : OB w2 w.heap.size A1 c1 k1 := (ho1.alloc _).below hb2
  clear hb2 ho1 hb1
  go_wp2_with fail
  refine (codecFour s w2 (by omega) (by omega)).mono ?_
  rintro e w3 ⟨k3, A3, c3, hk3, hk31, hk32, rfl, ho3, hb3⟩
  have hk3l1 : k3.length ≤ 4 := by rw [hk3.out, fourB_len]; omega
  have E3 : Hid (k3 = fourB s) := Lib.hid (by rw [hk3.out, Int.toNat_natCast])
  have B3 : Below w.heap.size w w3 := B2.trans (hb3.mono B2.size)
  have ho2' := ho2.below hb3
  clear hk3 hk31 hk32 ho2 hb3
  go_wp2_with (first
    | (at_builtin; refine wp_appendB _ rfl (.tmp 12) (.tmp 17) rfl w.heap.size _ _ _ _ k1 k3 rfl rfl ho2' ho3.rb (by omega) B3.size ?_; intro k4 A4 c4 w4 hk4 hk41 hk42 ho4 hg4; have B4 : Below w.heap.size w w4 := B3.grown hg4 B3.size fun g hg => (ho2'.own_lt g hg).1; have hd4 := h.below B4)
    | (at_builtin; refine wp_appendB _ rfl (.tmp 19) (.tmp 20) rfl w.heap.size _ _ _ _ k4 d rfl rfl ho4 hd4 (by omega) B4.size ?_; intro k5 A5 c5 w5 hk5 hk51 hk52 ho5 hg5))
  go_ret2
  exact newBE (by rw [hk5.out, hk4.out, E3.out, HS.out, E1.out]; simp [frameB]) ho5 (B4.grown hg5 B4.size fun g hg => (ho4.own_lt g hg).1)

end Go.Proofs.YtobdmlejabjmiaaGreatDoor


/- Plain: words, numbers acs digits, an act's line, a setting's line, a script's text; what the reference's loops count. -/
namespace Go.Proofs.YtobdmlejabjmiaaGreatDoor
open Go.Lib

/-- One word more, a blank ahead of it unless it is the first. -/
def addw (l s : List UInt8) : List UInt8 := if l = [] then s else l ++ 32 :: s
/-- Words, each with a blank ahead. -/
def tailw : List (List UInt8) → List UInt8
  | [] => []
  | s :: r => 32 :: (s ++ tailw r)
/-- A number without a sign, with one. -/
def udec (n : Int) : List UInt8 := decDigits n.toNat
theorem udec_nat (n : Nat) : udec (n : Int) = decDigits n := by simp [udec]
theorem nDigits_le {u : Nat} (h : u < 18446744073709551616) : nDigits u ≤ 20 := by
  by_cases h1 : 1 ≤ u
  · have := numDigits_eq u h1 h
    split at this <;> omega
  · rw [nDigits_small (by omega)]; omega
/-- A digit of sixteen. -/
def fig (n : Nat) : UInt8 := if n < 10 then UInt8.ofNat (48 + n) else UInt8.ofNat (87 + n)
def hexs : List UInt8 → List UInt8
  | [] => []
  | x :: r => fig (x.toNat / 16) :: fig (x.toNat % 16) :: hexs r
def figures : List UInt8 := [48, 49, 50, 51, 52, 53, 54, 55, 56, 57, 97, 98, 99, 100, 101, 102]
/-- A command's fields. -/
structure Cm where
  ses : Int
  seq : Int
  op : Int
  key : List UInt8
  amount : Int
  span : Int
  lease : Int
structure Cm.wf (c : Cm) : Prop where
  ses0 : 0 ≤ c.ses
  ses1 : c.ses ≤ 18446744073709551615
  seq0 : 0 ≤ c.seq
  seq1 : c.seq ≤ 18446744073709551615
  op0 : -9223372036854775808 ≤ c.op
  op1 : c.op ≤ 9223372036854775807
  amt0 : -9223372036854775808 ≤ c.amount
  amt1 : c.amount ≤ 9223372036854775807
  span0 : -9223372036854775808 ≤ c.span
  span1 : c.span ≤ 9223372036854775807
  lease0 : 0 ≤ c.lease
  lease1 : c.lease ≤ 18446744073709551615
  keyl : c.key.length ≤ 140737488351232
def Cm.ok (c : Cm) : Bool := decide (c.key.length ≤ 64) && decide (0 ≤ c.op) && decide (c.op ≤ 5)
def Cm.words (c : Cm) : List (List UInt8) := [udec c.ses, udec c.seq, itoa c.op, 120 :: hexs c.key, itoa c.amount, itoa c.span, udec c.lease]
/-- An act's. -/
structure Ap where
  kind : Int
  a : Int
  b : Int
  n : Int
  draw : Int
  mask : Int
  cmd : Cm
structure Ap.wf (a : Ap) : Prop where
  kind0 : -9223372036854775808 ≤ a.kind
  kind1 : a.kind ≤ 9223372036854775807
  a0 : -9223372036854775808 ≤ a.a
  a1 : a.a ≤ 9223372036854775807
  b0 : -9223372036854775808 ≤ a.b
  b1 : a.b ≤ 9223372036854775807
  n0 : -9223372036854775808 ≤ a.n
  n1 : a.n ≤ 9223372036854775807
  draw0 : 0 ≤ a.draw
  draw1 : a.draw ≤ 18446744073709551615
  mask0 : 0 ≤ a.mask
  mask1 : a.mask ≤ 18446744073709551615
  cmd : a.cmd.wf
/-- The words of the kinds. -/
def kindWord : Nat → List UInt8
  | 1 => [116, 105, 99, 107]
  | 2 => [112, 97, 115, 115]
  | 3 => [115, 101, 110, 100]
  | 4 => [100, 114, 111, 112]
  | 5 => [116, 119, 105, 110]
  | 6 => [99, 117, 116]
  | 7 => [104, 101, 97, 108]
  | 8 => [102, 117, 115, 101]
  | 9 => [115, 116, 111, 112]
  | 10 => [115, 116, 97, 114, 116]
  | 11 => [97, 115, 107]
  | 12 => [108, 111, 111, 107]
  | 13 => [97, 103, 97, 105, 110]
  | 14 => [99, 111, 110, 102]
  | 15 => [103, 105, 118, 101]
  | 16 => [115, 104, 114, 105, 110, 107]
  | 17 => [97, 100, 109, 105, 116]
  | 18 => [114, 111, 111, 109]
  | _ => []
def Ap.ok (a : Ap) : Bool := decide (1 ≤ a.kind) && decide (a.kind ≤ 18) && a.cmd.ok
def Ap.line (a : Ap) : List UInt8 := kindWord a.kind.toNat ++ tailw ([itoa a.a, itoa a.b, itoa a.n, udec a.draw, udec a.mask] ++ a.cmd.words)
/-- A setting's fields, all with a sign. -/
def setWord : List UInt8 := [115, 101, 116, 116, 105, 110, 103]
def setLine (zs : List Int) : List UInt8 := setWord ++ tailw (zs.map itoa)

/-- A script's text, acs far acs the acts are sound and there is room: the text so far, an act more. -/
def addLine (t : List UInt8) (a : Ap) : List UInt8 := if t.length ≤ 65536 then t ++ a.line ++ [10] else t
def scriptText (zs : List Int) (acs : List Ap) : List UInt8 := acs.foldl addLine (setLine zs ++ [10])
def scriptSays (zs : List Int) (acs : List Ap) : List UInt8 × Int :=
  if acs.all Ap.ok then (if acs.length ≤ 65536 ∧ (scriptText zs acs).length ≤ 65536 then (scriptText zs acs, 0) else ([], 7)) else ([], 2)
/-- The reference's loop: 's' holds the digits from some place on; 'n' is what is left. -/
theorem dec_step {u : Nat} (h : ¬ u < 10) : decDigits u = decDigits (u / 10) ++ [UInt8.ofNat (48 + u % 10)] := by rw [decDigits, dif_neg h]

/-- Words, one behind the other. -/
def addws (l : List UInt8) (ss : List (List UInt8)) : List UInt8 := ss.foldl addw l
end Go.Proofs.YtobdmlejabjmiaaGreatDoor


/- Plain: a line's words, read one after the other: numbers, keys, acts, calls, settings; what is written is read acs it was. -/
namespace Go.Proofs.YtobdmlejabjmiaaGreatDoor
open Go.Lib

/-- What stands between the marks. -/
def parts (b : UInt8) : List UInt8 → List (List UInt8)
  | [] => [[]]
  | c :: r => if c = b then [] :: parts b r else match parts b r with
    | [] => [[c]]
    | w :: ws => (c :: w) :: ws
/-- Numbers. -/
def pnum (l : List UInt8) : Option Int := match parseUintB 64 l with
  | .ok u => if decDigits u = l then some (u : Int) else none
  | _ => none
def pint (l : List UInt8) : Option Int := match parseIntB 64 l with
  | .ok v => if itoa v = l then some v else none
  | _ => none
theorem parseM_append (M : Nat) : ∀ (l : List UInt8) (acc u : Nat) (r : List UInt8), parseUintM M acc l = .ok u → parseUintM M acc (l ++ r) = parseUintM M u r
  | [], acc, u, r, h => by
    simp only [parseUintM] at h
    injection h with h
    rw [List.nil_append, h]
  | c :: l, acc, u, r, h => by
    rw [List.cons_append]
    simp only [parseUintM] at h ⊢
    split at h
    · rename_i hc
      rw [if_pos hc]
      split at h
      · cases h
      · rename_i h2
        rw [if_neg h2]
        split at h
        · cases h
        · rename_i h3
          rw [if_neg h3]
          exact parseM_append M l _ u r h
    · cases h
theorem parse_dec : ∀ (n u : Nat), u ≤ n → u ≤ 18446744073709551615 → parseUintM 18446744073709551615 0 (decDigits u) = .ok u
  | n, u, hn, h => by
    by_cases h10 : u < 10
    · rw [decDigits, dif_pos h10]
      have e : (UInt8.ofNat (48 + u)).toNat = 48 + u := by rw [UInt8.toNat_ofNat']; omega
      simp only [parseUintM, e]
      rw [if_pos (by omega), if_neg (by omega), if_neg (by omega)]
      congr 1
      omega
    · match n with
      | 0 => omega
      | n + 1 =>
        rw [dec_step h10, parseM_append _ _ _ _ _ (parse_dec n (u / 10) (by omega) (by omega))]
        have e : (UInt8.ofNat (48 + u % 10)).toNat = 48 + u % 10 := by rw [UInt8.toNat_ofNat']; omega
        simp only [parseUintM, e]
        rw [if_pos (by omega), if_neg (by omega), if_neg (by omega)]
        congr 1
        omega
theorem dec_ne (u : Nat) : decDigits u ≠ [] := by
  intro h
  have := congrArg List.length h
  rw [decDigits_length] at this
  have := nDigits_pos u
  simp at *
  omega
theorem parseB_dec {u : Nat} (h : u ≤ 18446744073709551615) : parseUintB 64 (decDigits u) = .ok u := by
  unfold parseUintB
  rw [if_neg (dec_ne u), show (2 : Nat) ^ 64 - 1 = 18446744073709551615 by decide]
  exact parse_dec u u (Nat.le_refl _) h
theorem dec_head (u : Nat) : ∃ c r, decDigits u = c :: r ∧ 48 ≤ c.toNat ∧ c.toNat ≤ 57 := by
  induction u using Nat.strongRecOn with
  | _ u ih =>
    by_cases h10 : u < 10
    · refine ⟨_, [], by rw [decDigits, dif_pos h10], ?_⟩
      rw [UInt8.toNat_ofNat']
      omega
    · obtain ⟨c, r, h1, h2⟩ := ih (u / 10) (by omega)
      exact ⟨c, _, by rw [dec_step h10, h1]; rfl, h2⟩
/-- Keys. -/
def unfig (c : UInt8) : Option Nat := if 48 ≤ c.toNat ∧ c.toNat ≤ 57 then some (c.toNat - 48) else if 97 ≤ c.toNat ∧ c.toNat ≤ 102 then some (c.toNat - 87) else none
def unhex : List UInt8 → Option (List UInt8)
  | [] => some []
  | [_] => none
  | a :: b :: r => match unfig a, unfig b, unhex r with
    | some x, some y, some t => some (UInt8.ofNat (16 * x + y) :: t)
    | _, _, _ => none
def pkey (l : List UInt8) : Option (List UInt8) := match l with
  | [] => none
  | c :: r => if c = 120 then match unhex r with
      | some k => if k.length ≤ 64 then some k else none
      | none => none
    else none
/-- A reader: what is left of the words. -/
abbrev Rd (α : Type) := List (List UInt8) → Option (α × List (List UInt8))
def rd {α : Type} (p : List UInt8 → Option α) : Rd α
  | [] => none
  | s :: r => match p s with
    | some x => some (x, r)
    | none => none
def Rd.bind {α β : Type} (m : Rd α) (f : α → Rd β) : Rd β := fun l => match m l with
  | some (x, r) => f x r
  | none => none
def Rd.ret {α : Type} (x : α) : Rd α := fun l => some (x, l)
def Rd.need (b : Bool) : Rd Unit := fun l => if b then some ((), l) else none
theorem Rd.bind_some {α β : Type} {m : Rd α} {f : α → Rd β} {l r : List (List UInt8)} {x : α} (h : m l = some (x, r)) : Rd.bind m f l = f x r := by simp [Rd.bind, h]
/-- A command's words, read. -/
def rdCmd : Rd Cm :=
  Rd.bind (rd pnum) fun ses => Rd.bind (rd pnum) fun seq => Rd.bind (rd pint) fun op => Rd.bind (rd pkey) fun key => Rd.bind (rd pint) fun amount => Rd.bind (rd pint) fun span => Rd.bind (rd pnum) fun lease =>
  Rd.bind (Rd.need (Cm.ok ⟨ses, seq, op, key, amount, span, lease⟩)) fun _ => Rd.ret ⟨ses, seq, op, key, amount, span, lease⟩
/-- The kind that a word is. -/
def kindOf (s : List UInt8) : Option Int := ((List.range 18).find? fun k => decide (kindWord (k + 1) = s)).map fun k => ((k + 1 : Nat) : Int)
/-- An act's line, read. -/
def rdAct : Rd Ap :=
  Rd.bind (rd kindOf) fun kind => Rd.bind (rd pint) fun a => Rd.bind (rd pint) fun b => Rd.bind (rd pint) fun n => Rd.bind (rd pnum) fun draw => Rd.bind (rd pnum) fun mask => Rd.bind rdCmd fun cmd => Rd.ret ⟨kind, a, b, n, draw, mask, cmd⟩
def whole {α : Type} (m : Rd α) (l : List UInt8) : Option α := match m (parts 32 l) with
  | some (x, []) => some x
  | _ => none
def readAct (l : List UInt8) : Option Ap := whole rdAct l
/-- No blank, and no line's end, in a word. -/
def Pure (s : List UInt8) : Prop := (32 : UInt8) ∉ s ∧ (10 : UInt8) ∉ s
theorem dec_range : ∀ (u : Nat), ∀ c ∈ decDigits u, 48 ≤ c.toNat ∧ c.toNat ≤ 57 := by
  intro u
  induction u using Nat.strongRecOn with
  | _ u ih =>
    intro c hc
    by_cases h10 : u < 10
    · rw [decDigits, dif_pos h10, List.mem_singleton] at hc
      subst hc
      rw [UInt8.toNat_ofNat']
      omega
    · rw [dec_step h10, List.mem_append, List.mem_singleton] at hc
      rcases hc with hc | rfl
      · exact ih (u / 10) (by omega) c hc
      · rw [UInt8.toNat_ofNat']
        omega
end Go.Proofs.YtobdmlejabjmiaaGreatDoor


/- Plain: a slot on a disk. -/
namespace Go.Proofs.YtobdmlejabjmiaaGreatDoor
open Go.Lib

/-- A slot. -/
structure Sl where
  base : Nm
  last : Nat
  value : List UInt8
  has : Bool
  old : List Nm
  down : Bool
def fileN (b : Nm) (n : Nat) : Nm := b ++ [46] ++ decDigits n
def numN (b f : Nm) : Option Nat :=
  if hasPrefix f (b ++ [46]) = true then (match parseUintB 64 (trimPrefix f (b ++ [46])) with | .ok u => some u | _ => none) else none
/-- What Open has seen. -/
structure Sc where
  last : Nat
  best : Nat
  has : Bool
  value : List UInt8
  old : List Nm
def Sc.zero : Sc := ⟨0, 0, false, [], []⟩
def scan1 (b : Nm) (F : FS) (s : Sc) (f : Nm) : Sc :=
  match numN b f with
  | none => s
  | some n =>
    if (unfrAt ((fget F f).getD []) 0).2.2 = 0 ∧ (unfrAt ((fget F f).getD []) 0).2.1 = (((fget F f).getD []).length : Int) ∧ (s.has = false ∨ s.best < n) then
      ⟨max s.last n, n, true, (unfrAt ((fget F f).getD []) 0).1, s.old ++ [f]⟩
    else ⟨max s.last n, s.best, s.has, s.value, s.old ++ [f]⟩
def scanD (b : Nm) (D : DSt) : Sc := (namesD D).foldl (scan1 b D.files) Sc.zero
def rmD (D : DSt) (f : Nm) : Int × DSt := changeD D ⟨3, f, 0, []⟩ 0
def cleanL : List Nm → DSt → Int × DSt
  | [], D => (0, D)
  | f :: r, D => if (rmD D f).1 = 0 then cleanL r (rmD D f).2 else rmD D f
def cleanD (old : List Nm) (D : DSt) : Int × DSt :=
  if old = [] then (0, D) else if (cleanL old D).1 = 0 then syncD (cleanL old D).2 else cleanL old D
def restN (b : Nm) (s : Sc) : List Nm := if s.has = true then s.old.filter (fun f => !(f == fileN b s.best)) else s.old
def openD (b : Nm) (D : DSt) : Int × DSt := cleanD (restN b (scanD b D)) D
def openS (b : Nm) (s : Sc) : Sl := ⟨b, s.last, s.value, s.has, if s.has = true then [fileN b s.best] else [], false⟩
def putS (D : DSt) (f : Nm) (x : List UInt8) : Int × DSt := changeD D ⟨1, f, 0, frameB x⟩ 0
def saveS (s : Sl) (D : DSt) (x : List UInt8) : Int × Sl × DSt :=
  if s.down = true then (11, s, D)
  else if 65520 < x.length then (7, s, D)
  else if (putS D (fileN s.base (s.last + 1)) x).1 ≠ 0 then ((putS D (fileN s.base (s.last + 1)) x).1, { s with down := decide ((putS D (fileN s.base (s.last + 1)) x).1 = 11) }, (putS D (fileN s.base (s.last + 1)) x).2)
  else if (syncD (putS D (fileN s.base (s.last + 1)) x).2).1 ≠ 0 then
    ((syncD (putS D (fileN s.base (s.last + 1)) x).2).1, { s with last := s.last + 1, down := decide ((syncD (putS D (fileN s.base (s.last + 1)) x).2).1 = 11) }, (syncD (putS D (fileN s.base (s.last + 1)) x).2).2)
  else ((cleanD s.old (syncD (putS D (fileN s.base (s.last + 1)) x).2).2).1, ⟨s.base, s.last + 1, x, true, [fileN s.base (s.last + 1)], decide ((cleanD s.old (syncD (putS D (fileN s.base (s.last + 1)) x).2).2).1 = 11)⟩, (cleanD s.old (syncD (putS D (fileN s.base (s.last + 1)) x).2).2).2)
def loadE (s : Sl) : Int := if s.down = true then 11 else if s.has = false then 8 else 0

/-! ### Names -/
def BaseOk (b : Nm) : Prop := (1 ≤ b.length ∧ b.length ≤ 8) ∧ ∀ c ∈ b, 97 ≤ c.toNat ∧ c.toNat ≤ 122
theorem set_of_range {c : UInt8} (h : (97 ≤ c.toNat ∧ c.toNat ≤ 122) ∨ (48 ≤ c.toNat ∧ c.toNat ≤ 57)) : nameSet.contains c = true := by
  have h256 : c.toNat < 256 := c.toNat_lt
  have e : c = UInt8.ofNat c.toNat := by simp
  rw [List.contains_iff_mem, e]
  generalize c.toNat = n at *
  have hm : n ∈ nameSet.map UInt8.toNat := by
    have : nameSet.map UInt8.toNat = [97, 98, 99, 100, 101, 102, 103, 104, 105, 106, 107, 108, 109, 110, 111, 112, 113, 114, 115, 116, 117, 118, 119, 120, 121, 122, 48, 49, 50, 51, 52, 53, 54, 55, 56, 57, 46] := by decide
    rw [this]
    simp only [List.mem_cons, List.not_mem_nil, or_false]
    omega
  obtain ⟨d, hd, rfl⟩ := List.mem_map.1 hm
  simpa using hd
theorem nameOk_file {b : Nm} (hb : BaseOk b) {n : Nat} (hn : n < 18446744073709551616) : nameOk (fileN b n) = true := by
  have h1 := nDigits_le hn
  have h2 : (decDigits n).length ≤ 20 := by rw [decDigits_length]; exact h1
  unfold nameOk fileN
  rw [Bool.and_eq_true, decide_eq_true_eq, List.all_eq_true]
  refine ⟨by simp only [List.length_append, List.length_cons, List.length_nil]; have := hb.1; omega, fun c hc => ?_⟩
  rcases List.mem_append.1 hc with hc | hc
  · rcases List.mem_append.1 hc with hc | hc
    · exact set_of_range (.inl (hb.2 c hc))
    · rw [List.mem_singleton.1 hc]; decide
  · exact set_of_range (.inr (dec_range n c hc))
theorem numN_file (b : Nm) {n : Nat} (hn : n < 18446744073709551616) : numN b (fileN b n) = some n := by
  have h1 : hasPrefix (fileN b n) (b ++ [46]) = true := by
    unfold hasPrefix fileN
    rw [List.isPrefixOf_iff_prefix]
    exact ⟨_, rfl⟩
  have h2 : trimPrefix (fileN b n) (b ++ [46]) = decDigits n := by
    unfold trimPrefix
    rw [if_pos h1]
    exact List.drop_left' rfl
  unfold numN
  rw [if_pos h1, h2, parseB_dec (by omega)]
/-! ### Frames -/
theorem frame_len (x : List UInt8) : (frameB x).length = x.length + 8 := by unfold frameB; simp [fourB]
theorem scan_skip {b : Nm} {F : FS} {s : Sc} {f : Nm} (h : numN b f = none) : scan1 b F s f = s := by
  unfold scan1
  rw [h]

/-! ### Cleaning -/
theorem burn_idle {D : DSt} (h : D.fuse = 0) : burnD D = D := by unfold burnD; rw [if_neg (by omega)]
theorem rm_idle {D : DSt} {f : Nm} (hd : D.down = false) (hf : D.fuse = 0) (hn : nameOk f = true) : rmD D f = (0, { D with unsure := D.unsure ++ [⟨3, f, 0, []⟩] }) := by
  have hr : refuseD D ⟨3, f, 0, []⟩ 0 = 0 := by
    unfold refuseD
    rw [if_neg (by rw [hd]; simp), if_neg (by rw [hn]; simp), if_neg (by simp), if_neg (by simp [afterN])]
  unfold rmD changeD
  rw [if_neg (by rw [hr]; simp), burn_idle hf, if_neg (by rw [hd]; simp)]
theorem sync_idle {D : DSt} (hd : D.down = false) (hf : D.fuse = 0) : syncD D = (0, { D with sure := D.files, unsure := [] }) := by
  unfold syncD
  rw [if_neg (by rw [hd]; simp), burn_idle hf, if_neg (by rw [hd]; simp)]
theorem clean_none (D : DSt) : cleanD [] D = (0, D) := by unfold cleanD; rw [if_pos rfl]
/-! ### A slot and its disk -/
structure Inv (b : Nm) (s : Sl) (D : DSt) (v : Option (List UInt8)) : Prop where
  base : s.base = b
  up : s.down = false
  dd : D.down = false
  uns : D.unsure = []
  has : s.has = v.isSome
  val : s.value = v.getD []
  files : (v = none ∧ D.sure = [] ∧ s.old = []) ∨ (∃ x n, v = some x ∧ x.length ≤ 65520 ∧ n ≤ s.last ∧ D.sure = [(fileN b n, frameB x)] ∧ s.old = [fileN b n])
structure Opened (b : Nm) (D : DSt) (v : Option (List UInt8)) (m : Nat) : Prop where
  ok : (openD b D).1 = 0
  inv : Inv b (openS b (scanD b D)) (openD b D).2 v
  lst : (scanD b D).last ≤ m
  cnt : D.cnt ≤ 10
  nms : ∀ p ∈ D.files, nameOk p.1 = true
  dn : D.down = false
  uns : D.unsure = []
  fuse : (openD b D).2.fuse = 0
  room : (openD b D).2.room = D.room
  can : ∀ p ∈ D.files, ∀ n, numN b p.1 = some n → p.1 = fileN b n ∧ n < 18446744073709551616
/-- A disk at rest. -/
structure Rest (D : DSt) : Prop where
  dd : D.down = false
  fu : D.fuse = 0
  un : D.unsure = []
theorem Rest.files {D : DSt} (h : Rest D) : D.files = D.sure := by unfold DSt.files; rw [h.un]; rfl
theorem Rest.names {D : DSt} (h : Rest D) : namesD D = D.sure.map Prod.fst := by unfold namesD; rw [if_neg (by rw [h.dd]; simp), h.files]
theorem Rest.scan {D : DSt} (h : Rest D) (b : Nm) : scanD b D = (D.sure.map Prod.fst).foldl (scan1 b D.sure) Sc.zero := by unfold scanD; rw [h.names, h.files]
/-! ### Save -/
theorem putD_new (x : List UInt8) : putD [] 0 x = x := by
  unfold putD resizeD
  simp
/-- What a Save comes to. -/
inductive Saved (b : Nm) (s : Sl) (D : DSt) (v : Option (List UInt8)) (x : List UInt8) (r : Int × Sl × DSt) : Prop
  | good (h1 : r.1 = 0) (h2 : Inv b r.2.1 r.2.2 (some x)) (h3 : r.2.1.last = s.last + 1)
  | full (h1 : r.1 = 10) (h2 : r.2.1 = s) (h3 : r.2.2 = D)
  | down (h1 : r.1 = 11) (h2 : r.2.2.cnt ≤ 10) (h4 : ∀ mask torn, ∃ v', (v' = v ∨ v' = some x) ∧ Opened b (fallD r.2.2 mask torn) v' (s.last + 1))
theorem Inv.cnt {b : Nm} {s : Sl} {D : DSt} {v : Option (List UInt8)} (h : Inv b s D v) : D.cnt ≤ 1 ∧ D.files = D.sure ∧ D.sure.length ≤ 1 := by
  have hf : D.files = D.sure := by unfold DSt.files; rw [h.uns]; rfl
  have hl : D.sure.length ≤ 1 := by
    rcases h.files with ⟨_, e, _⟩ | ⟨x, n, _, _, _, e, _⟩ <;> rw [e] <;> simp
  refine ⟨?_, hf, hl⟩
  unfold DSt.cnt
  rw [h.uns]
  simpa using hl
end Go.Proofs.YtobdmlejabjmiaaGreatDoor


/- What a row's listed variables hold, out of the row's condition: a table of strings, of numbers; it stays while what lies below stays. -/
namespace Go.Proofs.YtobdmlejabjmiaaGreatDoor
open Go.RowKit

theorem var_below {P : Program} {w w' : World} {n : String} {cs : Array Value} (h : w.var? P n = some cs) (hb : Below w.heap.size w w') : w'.var? P n = some cs := by
  unfold World.var? at *
  cases hg : P.globalNamed n with
  | none => simp [hg] at h
  | some g =>
    simp only [hg, Option.bind_some] at h ⊢
    have hlt : g < w.heap.size := by
      rcases Nat.lt_or_ge g w.heap.size with h' | h'
      · exact h'
      · rw [Array.getElem?_eq_none h'] at h; simp at h
    rw [hb.block g hlt]
    exact h
theorem laid_get {P : Program} {w : World} {n : String} {d : DataW Unit} : ∀ {l : List (String × DataW Unit)} {ps : List MemPlace}, DataW.LaidVars P w l ps → (n, d) ∈ l →
    ∃ g t cs fuel p, P.globalNamed n = some g ∧ (P.globals[g]?).map (·.type) = some t ∧ w.var? P n = some cs ∧ DataW.trod (fun _ => ()) P w 0 (fun _ => true) false fuel t cs.toList = some (d, p)
  | [], _, _, h => by cases h
  | (m, e) :: r, ps, hl, h => by
    obtain ⟨g, t, cs, fuel, p, q, h1, h2, h3, h4, h5, _⟩ := hl
    rcases List.mem_cons.1 h with h | h
    · injection h with e1 e2
      subst e1 e2
      exact ⟨g, t, cs, fuel, p, h1, h2, h3, h4⟩
    · exact laid_get h5 h
theorem tab_of_laid {P : Program} {w : World} {l : List (String × DataW Unit)} {n : String} {k : IntKind} {zs : List Int} {g : Nat} {t e : TypeId} {m : Nat} (h : laidMet P l w) (hm : (n, Lib.tabData k zs) ∈ l)
    (hg : P.globalNamed n = some g) (hty : (P.globals[g]?).map (·.type) = some t) (ht : P.underlying t = some (.array m e)) (he : P.underlying e = some (.int k)) (hce : P.cellsOf e = 1) (hct : P.cellsOf t = m) : Lib.TabIs P w n k zs := by
  obtain ⟨ps, hl, _⟩ := h
  obtain ⟨g', t', cs, fuel, p, h1, h2, h3, h4⟩ := laid_get hl hm
  obtain rfl := Option.some.inj (hg.symm.trans h1)
  obtain rfl := Option.some.inj (hty.symm.trans h2)
  unfold Lib.TabIs
  rw [h3, ← Lib.cells_of_tab ht he hce hct h4]
end Go.Proofs.YtobdmlejabjmiaaGreatDoor

