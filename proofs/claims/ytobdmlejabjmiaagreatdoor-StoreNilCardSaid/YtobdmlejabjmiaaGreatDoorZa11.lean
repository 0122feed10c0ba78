/- Put together of: ScrI, ReadA, ReadB, Plan, ReadDD. -/
import Derived.Test.YtobdmlejabjmiaaGreatDoorZa02
import Derived.Test.YtobdmlejabjmiaaGreatDoorZa10
import Derived.Test.YtobdmlejabjmiaaGreatDoorZa01
import Derived.Shelf.Strconv.Itoa4
import Derived.Lib.AppendIntMem
import Derived.Deep.QuietTactic
import Derived.BigQuiet
import Derived.BigCall
import Derived.BigGuard
import Derived.Laws.BitsAllLaws
import Derived.Below
import Derived.OrdersHeld
import Derived.Deep.RegionHeld3
/- Numbers acs digits: strconv.FormatInt and strconv.FormatUint at base 10. -/
namespace Go.Proofs.YtobdmlejabjmiaaGreatDoor
open Go.RowKit Go.Sort Go.Lib

/-- The table of powers of ten. -/
def Pow (w : World) : Prop := Lib.TabIs Tryz.prog w "internal/strconv.uint64pow10" .u64 Lib.pow10Tab
theorem Pow.below {w w' : World} (h : Pow w) (hb : Below w.heap.size w w') : Pow w' := (Lib.tabBelow_of_tabIs h) w' hb

set_option maxHeartbeats 12800000 in
set_option maxRecDepth 100000 in
theorem fmtUintIn (u : Nat) (hu64 : u < 18446744073709551616) (w : World) (htab : Pow w) :
    Calls Tryz.prog 177 #[.int .u64 (u : Int), .int .i64 10] w fun e w' => e = .returned (.string ⟨(Lib.decDigits u).toArray⟩) ∧ Below w.heap.size w w' := by
  by_cases hs : u < 100
  · go_enter Tryz.func177, Tryz.ntmps177
    go_wp2_with (go_at_call 209; refine (Tryz.internal_strconv_small u hs _).mono ?_; rintro e w' ⟨rfl, rfl⟩)
    go_ret
    exact ⟨rfl, Below.refl _ _⟩
  · have hu1 : 1 ≤ u := by omega
    have hnd20 : Lib.nDigits u ≤ 20 := by have := Lib.numDigits_eq u hu1 hu64; split at this <;> omega
    have hal : Tryz.prog.arrayLen 273 = 24 := by kernel_rfl
    have hsl : ∀ W, (Instr.sliceAt 273 (.pointer (some ⟨w.heap.size, 0, none⟩)) none (some (.int .i64 (Lib.nDigits u : Int))) none).run Tryz.prog W = .ok (.slice (some ⟨w.heap.size, 0, none⟩) (Lib.nDigits u) 24) W := fun W => by
      rw [run_sliceAt_array_h W 273 ⟨w.heap.size, 0, none⟩ (by kernel_rfl) .i64 (Lib.nDigits u : Int) (by omega) (by rw [hal]; omega)]
      go_simp
    have hH0 := Lib.holds_zero0 w 273 (Lib.nDigits u) (by omega)
    have hfmt := Tryz.internal_strconv_formatBase10 w.heap.size 0 24 u (Array.replicate (Lib.nDigits u) 0) (w.alloc (.cells Lib.zeros24 273)) hH0 (by rw [Array.size_replicate]; exact Lib.lt_pow_nDigits u) hu64 (by rw [Array.size_replicate]; omega)
    rw [Array.size_replicate] at hfmt
    have HH0 := Lib.hid hH0
    have iu : (100 : Int) ≤ (u : Int) := by omega
    clear hH0 hal hs
    go_enter Tryz.func177, Tryz.ntmps177
    go_wp2_with (first
      | (go_at_call 210; refine (Tryz.internal_strconv_numDigits u hu1 hu64 _ (Lib.tabIs_alloc htab _)).mono ?_; rintro e w' ⟨rfl, rfl⟩))
    go_at_call 211
    refine hfmt.mono ?_
    rintro e w' ⟨rfl, k, v', dk, rfl, hF⟩
    have hcv : (convert 34 9 (.slice (some ⟨w.heap.size, 0, none⟩) (Lib.nDigits u) 24)).run Tryz.prog ((putRow (fun (b : UInt8) => Value.int .u8 (b.toNat : Int)) (w.alloc (.cells Lib.zeros24 273)) w.heap.size 0 dk).drewN k) = .ok (.string ⟨(Lib.decDigits u).toArray⟩) ((putRow (fun (b : UInt8) => Value.int .u8 (b.toNat : Int)) (w.alloc (.cells Lib.zeros24 273)) w.heap.size 0 dk).drewN k) := by
      have h := run_convert_bytes_back (P := Tryz.prog) ((putRow (fun (b : UInt8) => Value.int .u8 (b.toNat : Int)) (w.alloc (.cells Lib.zeros24 273)) w.heap.size 0 dk).drewN k) 34 9 5 ⟨w.heap.size, 0, none⟩ 24 (Lib.decDigits u) Tryz.underlying34 Tryz.underlying5 Tryz.underlying9 (fun j hj => by
        rw [Lib.row_is_numeral hF j hj, Lib.add_plain, World.cell?_drewN]
        exact cell?_putRow (fun (b : UInt8) => Value.int .u8 (b.toNat : Int)) _ w.heap.size 0 _ dk HH0.out (by rw [hF.size, Array.size_replicate]) j (by rw [hF.size]; rw [Lib.decDigits_length] at hj; exact hj))
      rw [Lib.decDigits_length] at h
      exact h
    go_wp2
    go_ret
    obtain ⟨os, eo⟩ := Lib.fin_at w (.cells Lib.zeros24 273) dk k 0
    refine ⟨rfl, ?_⟩
    rw [eo]
    exact Lib.below_grow _ _ (Nat.le_refl _) _ _

set_option maxRecDepth 20000 in
theorem fmtUint (n : Int) (h0 : 0 ≤ n) (h1 : n ≤ 18446744073709551615) (w : World) (ht : Pow w) :
    Calls Tryz.prog 128 #[.int .u64 n, .int .i64 10] w fun e w' => e = .returned (.string ⟨(udec n).toArray⟩) ∧ Below w.heap.size w w' := by
  obtain ⟨u, rfl⟩ := Int.eq_ofNat_of_zero_le h0
  rw [udec_nat]
  go_enter Tryz.func128, Tryz.ntmps128
  go_wp2_with (go_at_call 177; refine (fmtUintIn u (by omega) _ ht).mono ?_)
  rintro e w' ⟨rfl, hb⟩
  go_wp2_with fail
  go_ret
  exact ⟨rfl, hb⟩
end Go.Proofs.YtobdmlejabjmiaaGreatDoor


/- Contracts of codec.Num and of its reference. -/
namespace Go.Proofs.YtobdmlejabjmiaaGreatDoor
open Go.RowKit

/-- Is a place one of n, or their end? -/
def insB (n : Nat) (i : Int) : Bool := decide (0 ≤ i ∧ i ≤ (n : Int))
theorem insB_yes {n : Nat} {i : Int} (h : 0 ≤ i ∧ i ≤ (n : Int)) : insB n i = true := by simpa [insB] using h
theorem insB_no {n : Nat} {i : Int} (h : ¬ (0 ≤ i ∧ i ≤ (n : Int))) : insB n i = false := by simpa [insB] using h
set_option maxHeartbeats 400000 in
theorem codecInside (A : Option Addr) (n c : Nat) (i : Int) (w : World) (_hn : n ≤ 9223372036854775807) :
    Calls Tryz.prog 124 #[.slice A n c, .int .i64 i] w fun e w' => e = .returned (.bool (insB n i)) ∧ w = w' := by
  by_cases h0 : 0 ≤ i
  · by_cases h1 : i ≤ (n : Int)
    · rw [insB_yes ⟨h0, h1⟩]
      go_enter Tryz.func124, Tryz.ntmps124
      go_wp2_with fail
      go_ret
      exact ⟨rfl, rfl⟩
    · rw [insB_no (by omega)]
      go_enter Tryz.func124, Tryz.ntmps124
      go_wp2_with fail
      go_ret
      exact ⟨rfl, rfl⟩
  · rw [insB_no (by omega)]
    go_enter Tryz.func124, Tryz.ntmps124
    go_wp2_with fail
    go_ret
    exact ⟨rfl, rfl⟩

/-- What Num ends in. -/
def NumE (b : List UInt8) (i : Int) (w : World) (e : Ending) (w' : World) : Prop :=
  e = .returned (.tuple #[.int .u64 (numAt b i).1, .int .i64 (numAt b i).2.1, .int .i64 (numAt b i).2.2]) ∧ w = w'
end Go.Proofs.YtobdmlejabjmiaaGreatDoor


/- Contract of the reference's Num. -/
namespace Go.Proofs.YtobdmlejabjmiaaGreatDoor
open Go.RowKit

end Go.Proofs.YtobdmlejabjmiaaGreatDoor


/- A region that draws its order, with calls that make memory in it: walked by a plan. Each operation that is no call is taken as soon as it may come up, and must yield one value in every world that has what is there now; the calls come one after the other, each leaves new memory alone. Then one walk serves every order. -/
namespace Go.Proofs.YtobdmlejabjmiaaGreatDoor
open Go.RowKit

/-- w' has what w has, and new blocks. -/
def Ext (w w' : World) : Prop := Below w.heap.size w w'
theorem Ext.refl (w : World) : Ext w w := Below.refl _ _
theorem Ext.trans {a b c : World} (h : Ext a b) (k : Ext b c) : Ext a c := Below.trans h (Below.mono k h.size)

def planB (md : Region.Mode) (ops : Array Oper) : List (Nat × Bool) → Array Bool → Bool
  | [], listed => (Region.ready md ops listed).isEmpty
  | (i, true) :: r, listed => Region.free md ops listed i && (Region.ready md ops listed).contains i && planB md ops r (listed.setIfInBounds i true)
  | (i, false) :: r, listed => (Region.ready md ops listed == [i]) && planB md ops r (listed.setIfInBounds i true)

def wpPlan (P : Program) (ops : Array Oper) (Q : Exit → Act → World → Prop) : List (Nat × Bool) → Act → World → Prop
  | [], a, w => Q .normal a w
  | (i, true) :: r, a, w => ∃ o v, ops[i]? = some o ∧ YieldsIf P ops (Ext w) o v a ∧ wpPlan P ops Q r (a.put o.dst v) w
  | (i, false) :: r, a, w => ∃ o, ops[i]? = some o ∧ wpOp P ops Q i (fun a' w' => Ext w w' ∧ wpPlan P ops Q r a' w') a w

section
variable {P : Program} {ops : Array Oper} {Q : Exit → Act → World → Prop} {md : Region.Mode}

theorem held_mono {S S' : World → Prop} (h : ∀ w, S' w → S w) : ∀ (fuel : Nat) (listed : Array Bool) (a : Act) (w : World), wpAnyH P md ops Q S' fuel listed a w → wpAnyH P md ops Q S fuel listed a w
  | 0, _, _, _, hh => hh
  | fuel + 1, _, _, _, hh => ⟨hh.1, fun i hi => wpOp_mono (fun a' w' h' => ⟨h _ h'.1, held_mono h fuel _ a' w' h'.2⟩) (hh.2 i hi)⟩

theorem plan_sound (hs : Region.noSelect ops = true) (hQ : ∀ c a w, ¬ Q (.panic c) a w) : ∀ (plan : List (Nat × Bool)) (fuel : Nat) (listed : Array Bool) (a : Act) (w : World),
    plan.length ≤ fuel → planB md ops plan listed = true → wpPlan P ops Q plan a w → wpAnyH P md ops Q (Ext w) fuel listed a w
  | [], fuel, listed, a, w, _, hp, h => wpAnyH_done (by simpa [planB] using hp) h fuel
  | (i, true) :: r, 0, _, _, _, hf, _, _ => by simp at hf
  | (i, false) :: r, 0, _, _, _, hf, _, _ => by simp at hf
  | (i, true) :: r, fuel + 1, listed, a, w, hf, hp, h => by
    obtain ⟨o, v, ho, hy, hr⟩ := h
    simp only [planB, Bool.and_eq_true] at hp
    exact wpAnyH_take ho hs hp.1.1 hp.1.2 (fun c a w hh => absurd hh (hQ _ _ _)) hy (Ext.refl w) (plan_sound hs hQ r fuel _ _ w (by simpa using hf) hp.2 hr)
  | (i, false) :: r, fuel + 1, listed, a, w, hf, hp, h => by
    obtain ⟨o, ho, hw⟩ := h
    simp only [planB, Bool.and_eq_true, beq_iff_eq] at hp
    refine wpAnyH_all hp.1 (by simp) fun j hj => ?_
    rw [List.mem_singleton] at hj
    subst hj
    exact wpOp_mono (fun a' w' ⟨he, hr⟩ => ⟨he, held_mono (fun x hx => he.trans hx) fuel _ a' w' (plan_sound hs hQ r fuel _ a' w' (by simpa using hf) hp.2 hr)⟩) hw

/-- The beginning. -/
theorem wp_region_plan {id : Nat} {a : Act} {w : World} (hm : P.follows .mixedOrders = true) (plan : List (Nat × Bool)) (hs : Region.noSelect ops = true)
    (hp : planB .any ops plan (Array.replicate ops.size false) = true) (hl : plan.length ≤ ops.size) (h : wpPlan P ops (NoPanic Q) plan a w.drew) : (Code.region id ops true).wp P Q a w :=
  wp_region_noPanic (wp_region_held (S := Ext w.drew) hm (plan_sound hs (fun _ _ _ hh => hh) plan _ _ a _ hl hp h))

theorem plan_pure {i : Nat} {r : List (Nat × Bool)} {a : Act} {w : World} {o : Oper} {v : Value} (ho : ops[i]? = some o) (hw : Region.wanted o (yielded ops a.tmps) = true)
    (hy : ∀ w', Ext w w' → (execOp a.eval o).run P w' = .ok (.value v) w') (h : wpPlan P ops Q r (a.put o.dst v) w) : wpPlan P ops Q ((i, true) :: r) a w :=
  ⟨o, v, ho, .inl ⟨hw, hy⟩, h⟩
theorem plan_call {i : Nat} {r : List (Nat × Bool)} {a : Act} {w : World} {o : Oper} (ho : ops[i]? = some o) (hw : Region.wanted o (yielded ops a.tmps) = true)
    (h : ∀ K : Act → World → Prop, (∀ a' w', Ext w w' → wpPlan P ops Q r a' w' → K a' w') → o.wp P a w K Q) : wpPlan P ops Q ((i, false) :: r) a w := by
  refine ⟨o, ho, ?_⟩
  unfold wpOp
  rw [ho]
  simp only [hw, if_true]
  exact .inl (h _ fun a' w' h1 h2 => ⟨h1, h2⟩)
theorem plan_end {a : Act} {w : World} (h : Q .normal a w) : wpPlan P ops (NoPanic Q) [] a w := NoPanic.normal h
end
end Go.Proofs.YtobdmlejabjmiaaGreatDoor


/- ReadDD: put together by merge.py of: ReadC, ReadD. -/
/- Contracts of codec.Bytes and of its reference. -/
namespace Go.Proofs.YtobdmlejabjmiaaGreatDoor
open Go.RowKit

theorem RB.partR {w : World} {bb off : Nat} {b : List UInt8} (h : RB w (some ⟨bb, off, none⟩) b) (f n : Nat) : RB w (some ⟨bb, off + f, none⟩) ((b.drop f).take n) := by
  refine ⟨fun hn => ?_⟩
  have hf : f < b.length := by
    simp at hn; omega
  obtain ⟨b', off', e, hb, hc⟩ := h.at_ (by omega)
  injection e with e
  injection e with e1 e2
  subst e1 e2
  refine ⟨bb, off + f, rfl, hb, fun j x hx => ?_⟩
  have := hc (f + j) x (by
    rw [List.getElem?_take] at hx
    split at hx
    · rw [List.getElem?_drop] at hx; exact hx
    · cases hx)
  rw [Nat.add_assoc]
  exact this
theorem cloneR' (A : Option Addr) (c n : Nat) (l : List UInt8) (hn : l.length = n) (w : World) (h : RB w A l) (hl : n ≤ 210000000000000) :
    Calls Tryz.prog 82 #[.slice A n c] w (NewB w l) := by
  subst hn; exact cloneB A c l w h (by omega)

/-- What Bytes and Unframe end in. -/
def DatE (L : Nat) (p : List UInt8 × Int × Int) (w : World) (e : Ending) (w' : World) : Prop :=
  ∃ (k : List UInt8) (A : Option Addr) (c : Nat), Hid (k = p.1) ∧ k.length ≤ L ∧ e = .returned (.tuple #[.slice A k.length c, .int .i64 p.2.1, .int .i64 p.2.2]) ∧ RB w' A k ∧ Below w.heap.size w w'
end Go.Proofs.YtobdmlejabjmiaaGreatDoor
/- Contracts of codec.word, codec.Unframe. -/
namespace Go.Proofs.YtobdmlejabjmiaaGreatDoor
open Go.RowKit

theorem or24 (x y : Nat) (hx : x < 256) (hy : y < 256) : bits BinOp.or IntKind.u32 ((x : Int) * 16777216) ((y : Int) * 65536) = (x : Int) * 16777216 + (y : Int) * 65536 := by
  have h := u32_or_nat (x * 16777216) (y * 65536) (by omega) (by omega)
  have e := Nat.shiftLeft_add_eq_or_of_lt (a := x) (b := y * 65536) (i := 24) (by omega)
  rw [Nat.shiftLeft_eq, show x * 2 ^ 24 = x * 16777216 from rfl] at e
  rw [← e] at h
  simpa using h
theorem or_low (m k b i : Nat) (hm : m = k * 2 ^ i) (hb : b < 2 ^ i) : m ||| b = m + b := by
  subst hm
  have := Nat.shiftLeft_add_eq_or_of_lt (a := k) (b := b) (i := i) hb
  rw [Nat.shiftLeft_eq] at this
  exact this.symm
theorem or16 (x y z : Nat) (hx : x < 256) (hy : y < 256) (hz : z < 256) : bits BinOp.or IntKind.u32 ((x : Int) * 16777216 + (y : Int) * 65536) ((z : Int) * 256) = (x : Int) * 16777216 + (y : Int) * 65536 + (z : Int) * 256 := by
  have h := u32_or_nat (x * 16777216 + y * 65536) (z * 256) (by omega) (by omega)
  rw [or_low (x * 16777216 + y * 65536) (x * 256 + y) (z * 256) 16 (by rw [show 2 ^ 16 = 65536 from rfl]; omega) (by rw [show 2 ^ 16 = 65536 from rfl]; omega)] at h
  simpa using h
theorem or8 (x y z v : Nat) (hx : x < 256) (hy : y < 256) (hz : z < 256) (hv : v < 256) : bits BinOp.or IntKind.u32 ((x : Int) * 16777216 + (y : Int) * 65536 + (z : Int) * 256) (v : Int) = (x : Int) * 16777216 + (y : Int) * 65536 + (z : Int) * 256 + (v : Int) := by
  have h := u32_or_nat (x * 16777216 + y * 65536 + z * 256) v (by omega) (by omega)
  rw [or_low (x * 16777216 + y * 65536 + z * 256) (x * 65536 + y * 256 + z) v 8 (by rw [show 2 ^ 8 = 256 from rfl]; omega) (by rw [show 2 ^ 8 = 256 from rfl]; omega)] at h
  simpa using h
theorem unB_four (a b c d : UInt8) : ((unB [a, b, c, d] : Nat) : Int) = (a.toNat : Int) * 16777216 + (b.toNat : Int) * 65536 + (c.toNat : Int) * 256 + (d.toNat : Int) := by
  have e : unB [a, b, c, d] = ((a.toNat * 256 + b.toNat) * 256 + c.toNat) * 256 + d.toNat := by simp [unB]
  rw [e]; omega

set_option maxRecDepth 20000 in
set_option maxHeartbeats 2000000 in
theorem codecWord (A : Option Addr) (n c : Nat) (l : List UInt8) (w : World) (h : RB w A l) (hl : l.length = 4) (hn : 4 ≤ n) (_hm : n ≤ 210000000000000) :
    Calls Tryz.prog 125 #[.slice A n c] w fun e w' => e = .returned (.int .u32 (unB l : Nat)) ∧ ∃ k, w' = w.drewN k := by
  match l, hl with
  | [x0, x1, x2, x3], _ =>
    obtain ⟨bb, off, rfl, hbb, hc⟩ := h.at_ (by simp)
    have c0 := hc 0 x0 rfl
    have c1 := hc 1 x1 rfl
    have c2 := hc 2 x2 rfl
    have c3 := hc 3 x3 rfl
    rw [Nat.add_zero] at c0
    have HU := Lib.hid (unB_four x0 x1 x2 x3)
    have l0 := x0.toNat_lt
    have l1 := x1.toNat_lt
    have l2 := x2.toNat_lt
    have l3 := x3.toNat_lt
    clear hc h
    have e24 := or24 x0.toNat x1.toNat (by omega) (by omega)
    have e16 := or16 x0.toNat x1.toNat x2.toNat (by omega) (by omega) (by omega)
    have e8 := or8 x0.toNat x1.toNat x2.toNat x3.toNat (by omega) (by omega) (by omega) (by omega)
    generalize x0.toNat = a at *
    generalize x1.toNat = b at *
    generalize x2.toNat = d at *
    generalize x3.toNat = f at *
    have g0 : (0 : Int) < (n : Int) := by omega
    have g1 : (1 : Int) < (n : Int) := by omega
    have g2 : (2 : Int) < (n : Int) := by omega
    have g3 : (3 : Int) < (n : Int) := by omega
    go_enter Tryz.func125, Tryz.ntmps125
    go_wp2_with fail
    go_quiet (fail)
    go_wp2_with fail
    go_ret
    exact ⟨ret_intB HU.out.symm, _, rfl⟩
end Go.Proofs.YtobdmlejabjmiaaGreatDoor

