/- Contracts of small functions on bytes: slices.Clone, slices.Clip, own. Each makes new bytes; what was there stays. -/
import Derived.Test.YtekkcbonkjdgeaaClone
import Derived.Test.YtekkcbonkjdgeaaShelf
namespace Go.Proofs.Ytekkcbonkjdgeaa
open Go.RowKit

set_option maxHeartbeats 400000 in
theorem ownB (A : Option Addr) (c : Nat) (l : List UInt8) (w : World) (h : RB w A l) (hl : l.length ≤ 220000000000000) :
    Calls Try.prog 16 #[.slice A l.length c] w (NewB w l) := by
  go_enter Try.func16, Try.ntmps16
  go_wp2_with (first
    | (at_make; refine wp_makeB _ rfl _ _ rfl w.heap.size _ _ _ rfl rfl (by omega) (by omega) (Nat.le_refl _) ?_; intro A1 c1 w1 ho1 hb1)
    | (at_builtin; refine wp_appendB _ rfl _ _ rfl w.heap.size _ _ _ _ [] l rfl rfl ho1 (h.below hb1) (by simp; omega) hb1.size ?_; intro k A' c' w' hk hk1 hk2 hob hg))
  go_ret
  exact newB (by simpa using hk.out) hob (hb1.grown hg hb1.size fun k hk => (ho1.own_lt k hk).1)

set_option maxHeartbeats 400000 in
theorem clipB (A : Option Addr) (c : Nat) (l : List UInt8) (w : World) (hc : l.length ≤ c) (_hm : c ≤ 9223372036854775807) :
    Calls Try.prog 44 #[.slice A l.length c] w fun e w' => e = .returned (.slice A l.length l.length) ∧ w = w' := by
  go_enter Try.func44, Try.ntmps44
  go_wp2_with fail
  go_ret
  exact ⟨rfl, rfl⟩

theorem len64 (n : Int) (w : World) (h0 : 0 ≤ n) (h1 : n ≤ 18446744073709551615) :
    Calls Try.prog 43 #[.int .u64 n] w fun e w' => e = .returned (.int .i64 (Lib.bitLen n.toNat)) ∧ w = w' :=
  (Try.bits_Len64 n w h0 h1).mono fun _ _ h => ⟨h.1, h.2.symm⟩
end Go.Proofs.Ytekkcbonkjdgeaa
