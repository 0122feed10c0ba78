/- Plain laws of 'addF', and a short contract of snap.Cut at the beginning. -/
import Derived.Test.YtogcdbodlomgeaaJoin
import Derived.Test.YtogcdbodlomgeaaSnapC
namespace Go.Proofs.Ytogcdbodlomgeaa
open Go.RowKit

theorem addF_new {ji jt pi pt : Int} {h d : List UInt8} (hp : pi ≠ 0) (hd : d.length ≤ 256) (hne : (pi, pt) ≠ (ji, jt)) : addF ji jt h pi pt 0 false d = ⟨d.length, [], false, 0, pi, pt, d⟩ := by
  unfold addF
  rw [if_neg (by omega), if_neg (by simp), if_pos hne]
  simp only [List.length_nil, Int.natCast_zero, Int.lt_irrefl, if_false, Int.zero_add, List.take_nil, List.nil_append]
  by_cases h1 : d.length = 0
  · have : d = [] := List.eq_nil_of_length_eq_zero h1
    subst this
    simp
  · have h2 : ¬ ((d.length : Int) ≤ 0) := by omega
    have h3 : ¬ (32768 < d.length) := by omega
    have h4 : d ≠ [] := fun e => h1 (by rw [e]; rfl)
    simp [h3, h4]

theorem addF_gap {ji jt pi pt off : Int} {h d : List UInt8} {last : Bool} (hp : pi ≠ 0) (hd : d.length ≤ 256) (hne : (pi, pt) ≠ (ji, jt)) (ho : 0 < off) : addF ji jt h pi pt off last d = ⟨0, [], false, 12, ji, jt, h⟩ := by
  unfold addF
  rw [if_neg (by omega), if_pos ⟨hne, by omega⟩]

/-- snap.Cut at place 0: the piece's bytes are at most 256. -/
theorem snapCut0 (i t : Int) (A : Option Addr) (c : Nat) (l : List UInt8) (w : World) (h : RB w A l) (hlc : l.length ≤ c ∧ c ≤ 9223372036854775807) (hl : l.length ≤ 140737488355328) :
    Calls Try.prog 15 #[.int .u64 i, .int .u64 t, .slice A l.length c, .int .i64 0] w fun e w' => ∃ (lb : Bool) (p : List UInt8) (P : Option Addr) (d : Nat), p.length ≤ 256 ∧
      e = .returned (.tuple #[.agg #[.int .u64 i, .int .u64 t, .int .i64 0, .bool lb, .slice P p.length d], .int .i64 0]) ∧ OB w' w.heap.size P d p ∧ Below w.heap.size w w' := by
  refine (snapCut i t A c l 0 w h hlc hl (Nat.zero_le _)).mono ?_
  rintro e w' ⟨p, P, d, _, hp1, rfl, ho, hb⟩
  exact ⟨_, p, P, d, hp1, rfl, ho, hb⟩
end Go.Proofs.Ytogcdbodlomgeaa
