/- CloneB: put together by merge.py of: Clone, Bytes. -/
import Derived.Test.YtjgonfnpfbifjaaGreatDoorMem
import Derived.Test.YtjgonfnpfbifjaaGreatDoorShelf
/- slices.Clone of bytes; what a function that answers new bytes ends in. -/
namespace Go.Proofs.YtjgonfnpfbifjaaGreatDoor
open Go.RowKit

/-- What a function that answers new bytes ends in. -/
def NewB (w : World) (l : List UInt8) (e : Ending) (w' : World) : Prop :=
  ∃ (k : List UInt8) (A : Option Addr) (c : Nat), Hid (k = l) ∧ k.length ≤ l.length ∧ l.length ≤ k.length ∧ e = .returned (.slice A k.length c) ∧ OB w' w.heap.size A c k ∧ Below w.heap.size w w'

theorem newB {w w' : World} {l k : List UInt8} {A : Option Addr} {c : Nat} (hk : k = l) (h : OB w' w.heap.size A c k) (hb : Below w.heap.size w w') : NewB w l (.returned (.slice A k.length c)) w' :=
  ⟨k, A, c, Lib.hid hk, by rw [hk]; exact Nat.le_refl _, by rw [hk]; exact Nat.le_refl _, rfl, h, hb⟩

set_option maxHeartbeats 400000 in
theorem cloneB (A : Option Addr) (c : Nat) (l : List UInt8) (w : World) (h : RB w A l) (hl : l.length ≤ 220000000000000) :
    Calls Tryz.prog 34 #[.slice A l.length c] w (NewB w l) := by
  have hnil := fun w => Lib.run_eql_slice_nil (P := Tryz.prog) w 33 5 A l.length c 0 0 Tryz.underlying33
  rcases A with _ | ad
  · have hl0 : l = [] := by
      rcases Nat.eq_zero_or_pos l.length with h0 | h0
      · exact List.eq_nil_of_length_eq_zero h0
      · obtain ⟨b, off, e, _⟩ := h.at_ h0; cases e
    have HL := Lib.hid hl0
    clear h hl hl0
    go_enter Tryz.func34, Tryz.ntmps34
    go_wp2_with fail
    go_ret
    exact newB (k := []) HL.out.symm (OB.nil _ _) (Below.refl _ _)
  · go_enter Tryz.func34, Tryz.ntmps34
    go_wp2_with (at_builtin; refine wp_appendB _ rfl _ _ rfl w.heap.size _ _ _ _ [] l rfl rfl (OB.made0 _ (Nat.le_refl _)) (h.alloc _) (by simp; omega) (by simp) ?_; intro k A' c' w' hk hk1 hk2 hob hg)
    go_ret
    exact newB (by simpa using hk.out) hob (((Below.refl _ _).alloc (Nat.le_refl _) _).grown hg (by simp) (by simp [Value.ownBlock]))
end Go.Proofs.YtjgonfnpfbifjaaGreatDoor
/- Contracts of small functions on bytes: slices.Clone, slices.Clip, own. Each makes new bytes; what was there stays. -/
namespace Go.Proofs.YtjgonfnpfbifjaaGreatDoor
open Go.RowKit

set_option maxHeartbeats 400000 in
theorem clipB (A : Option Addr) (c : Nat) (l : List UInt8) (w : World) (hc : l.length ≤ c) (_hm : c ≤ 9223372036854775807) :
    Calls Tryz.prog 59 #[.slice A l.length c] w fun e w' => e = .returned (.slice A l.length l.length) ∧ w = w' := by
  go_enter Tryz.func59, Tryz.ntmps59
  go_wp2_with fail
  go_ret
  exact ⟨rfl, rfl⟩

theorem len64 (n : Int) (w : World) (h0 : 0 ≤ n) (h1 : n ≤ 18446744073709551615) :
    Calls Tryz.prog 58 #[.int .u64 n] w fun e w' => e = .returned (.int .i64 (Lib.bitLen n.toNat)) ∧ w = w' :=
  (Tryz.bits_Len64 n w h0 h1).mono fun _ _ h => ⟨h.1, h.2.symm⟩
end Go.Proofs.YtjgonfnpfbifjaaGreatDoor
