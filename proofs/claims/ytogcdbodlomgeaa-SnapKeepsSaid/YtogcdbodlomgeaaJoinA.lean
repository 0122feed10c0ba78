/- The contracts of snap's Joiner: New, Have, Add. -/
import Derived.Test.YtogcdbodlomgeaaSnapA
import Derived.Test.YtogcdbodlomgeaaOpApp
import Derived.Deep.QuietTactic
import Derived.BigQuiet
namespace Go.Proofs.Ytogcdbodlomgeaa
open Go.RowKit

/-- What a piece does to a joiner: next, the whole, done, the error; and the joiner behind it. -/
structure AddR where
  n : Int
  whole : List UInt8
  done : Bool
  err : Int
  ji : Int
  jt : Int
  have_ : List UInt8
def addF (ji jt : Int) (h : List UInt8) (pi pt off : Int) (last : Bool) (d : List UInt8) : AddR :=
  if pi = 0 ∨ off < 0 ∨ 256 < d.length then ⟨0, [], false, 1, ji, jt, h⟩
  else if (pi, pt) ≠ (ji, jt) ∧ off ≠ 0 then ⟨0, [], false, 12, ji, jt, h⟩
  else
    let h1 := if (pi, pt) ≠ (ji, jt) then [] else h
    if (h1.length : Int) < off then ⟨0, [], false, 12, ji, jt, h⟩
    else if off + d.length ≤ h1.length ∧ last = false then ⟨h1.length, [], false, 0, pi, pt, h1⟩
    else
      let h2 := h1.take off.toNat ++ d
      if 32768 < h2.length then ⟨0, [], false, 7, 0, 0, []⟩
      else if last then ⟨h2.length, h2, true, 0, 0, 0, []⟩
      else ⟨h2.length, [], false, 0, pi, pt, h2⟩

/-- A joiner in its block. -/
def Jn (w : World) (base g : Nat) (T : TypeId) (ji jt : Int) (h : List UInt8) : Prop :=
  ∃ H c, Blk w g T #[.int .u64 ji, .int .u64 jt, .slice H h.length c] ∧ OB w base H c h

set_option maxHeartbeats 1000000 in
theorem joinNew (w : World) : Calls Try.prog 36 #[] w fun e w' => e = .returned (.pointer (some ⟨w.heap.size, 0, none⟩)) ∧ w' = w.alloc (.cells #[.int .u64 0, .int .u64 0, .slice none 0 0] 67) := by
  go_enter Try.func36, Try.ntmps36
  go_wp2_with fail
  go_ret
  exact ⟨rfl, rfl⟩

set_option maxHeartbeats 1000000 in
theorem joinHave (g : Nat) (ji jt : Int) (h : List UInt8) (base : Nat) (w : World) (hj : Jn w base g 67 ji jt h) (hl : h.length ≤ 9223372036854775807) :
    Calls Try.prog 40 #[.pointer (some ⟨g, 0, none⟩)] w fun e w' => e = .returned (.tuple #[.int .u64 ji, .int .u64 jt, .int .i64 (h.length : Int)]) ∧ Below w.heap.size w w' := by
  obtain ⟨H, c, hb, _⟩ := hj
  have c0 := hb.cell 0 rfl
  have c1 := hb.cell 1 rfl
  have c2 := hb.cell 2 rfl
  go_enter Try.func40, Try.ntmps40
  go_wp2_with fail
  go_quiet (fail)
  go_wp2_with fail
  go_ret3
  exact ⟨rfl, below_drewN (Below.refl _ _) _⟩

set_option maxRecDepth 20000 in
set_option maxHeartbeats 2000000 in
theorem joinAdd_bad (g : Nat) (ji jt : Int) (h : List UInt8) (pi pt off : Int) (last : Bool) (D : Option Addr) (c : Nat) (d : List UInt8) (w : World) (hd : d.length ≤ 9223372036854775807) (hb : pi = 0 ∨ off < 0 ∨ 256 < d.length) :
    Calls Try.prog 37 #[.pointer (some ⟨g, 0, none⟩), .agg #[.int .u64 pi, .int .u64 pt, .int .i64 off, .bool last, .slice D d.length c]] w fun e w' => e = .returned (.tuple #[.int .i64 0, .slice none 0 0, .bool false, .int .i64 1]) ∧ Below w.heap.size w w' := by
  have hbw := (Below.refl w.heap.size w).alloc (Nat.le_refl _) (.cells #[.int .u64 pi, .int .u64 pt, .int .i64 off, .bool last, .slice D d.length c] 25)
  go_enter Try.func37, Try.ntmps37
  by_cases h1 : pi = 0
  · subst h1
    go_wp2_with fail
    refine bodyPost_ret (v := .tuple #[.int .i64 0, .slice none 0 0, .bool false, .int .i64 1]) (by simp [results, Try.results37, go_sem]) rfl ?_
    exact ⟨rfl, hbw⟩
  · have e1 : (pi == 0) = false := by simpa using h1
    by_cases h2 : off < 0
    · go_wp2_with fail
      refine bodyPost_ret (v := .tuple #[.int .i64 0, .slice none 0 0, .bool false, .int .i64 1]) (by simp [results, Try.results37, go_sem]) rfl ?_
      exact ⟨rfl, hbw⟩
    · have h3 : (256 : Int) < (d.length : Int) := by omega
      go_wp2_with fail
      refine bodyPost_ret (v := .tuple #[.int .i64 0, .slice none 0 0, .bool false, .int .i64 1]) (by simp [results, Try.results37, go_sem]) rfl ?_
      exact ⟨rfl, hbw⟩

set_option maxRecDepth 20000 in
set_option maxHeartbeats 2000000 in
theorem joinAdd_gap (g : Nat) (ji jt : Int) (h : List UInt8) (pi pt off : Int) (last : Bool) (D : Option Addr) (c : Nat) (d : List UInt8) (base : Nat) (w : World) (hj : Jn w base g 67 ji jt h) (hd : d.length ≤ 256) (hp : pi ≠ 0) (ho : 0 ≤ off) (hne : (pi, pt) ≠ (ji, jt)) (ho1 : off ≠ 0) (ho2 : off ≤ 9223372036854775807) :
    Calls Try.prog 37 #[.pointer (some ⟨g, 0, none⟩), .agg #[.int .u64 pi, .int .u64 pt, .int .i64 off, .bool last, .slice D d.length c]] w fun e w' => e = .returned (.tuple #[.int .i64 0, .slice none 0 0, .bool false, .int .i64 12]) ∧ Below w.heap.size w w' := by
  have hbw := (Below.refl w.heap.size w).alloc (Nat.le_refl _) (.cells #[.int .u64 pi, .int .u64 pt, .int .i64 off, .bool last, .slice D d.length c] 25)
  have hbx := Blk.new w #[.int .u64 pi, .int .u64 pt, .int .i64 off, .bool last, .slice D d.length c] 25
  obtain ⟨H, ch, hb, hob⟩ := hj
  have hb' := hb.kept hbw
  have c0 := hb'.cell 0 rfl
  have c1 := hb'.cell 1 rfl
  have c2 := hb'.cell 2 rfl
  have x0 := hbx.cell 0 rfl
  have x1 := hbx.cell 1 rfl
  have x2 := hbx.cell 2 rfl
  have x3 := hbx.cell 3 rfl
  have x4 := hbx.cell 4 rfl
  have e1 : (pi == 0) = false := by simpa using hp
  have e2 : ¬ (256 : Int) < (d.length : Int) := by omega
  have e3 : ¬ off < 0 := by omega
  have e4 : (off != 0) = true := by simpa using ho1
  go_enter Try.func37, Try.ntmps37
  go_wp2_with fail
  by_cases h2 : pi = ji
  · subst h2
    have h3 : (jt == pt) = false := by
      simp only [beq_eq_false_iff_ne]
      rintro rfl
      exact hne rfl
    go_quiet (fail)
    go_wp2_with fail
    refine bodyPost_ret (v := .tuple #[.int .i64 0, .slice none 0 0, .bool false, .int .i64 12]) (by simp [results, Try.results37, go_sem]) rfl ⟨rfl, below_drewN hbw _⟩
  · have h2' : (ji != pi) = true := by simpa using fun e => h2 e.symm
    go_quiet (fail)
    go_wp2_with fail
    refine bodyPost_ret (v := .tuple #[.int .i64 0, .slice none 0 0, .bool false, .int .i64 12]) (by simp [results, Try.results37, go_sem]) rfl ⟨rfl, below_drewN hbw _⟩
end Go.Proofs.Ytogcdbodlomgeaa
