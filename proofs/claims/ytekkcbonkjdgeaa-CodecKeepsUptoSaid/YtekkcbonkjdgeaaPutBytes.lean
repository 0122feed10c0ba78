/- Contracts of codec.PutBytes and of its reference. -/
import Derived.Test.YtekkcbonkjdgeaaPutNum
namespace Go.Proofs.Ytekkcbonkjdgeaa
open Go.RowKit

/-- Lists of bytes as they are written. -/
def putB (l : List UInt8) : List UInt8 := putNum l.length ++ l
def putAll (L : List (Option Addr × Nat × List UInt8)) : List UInt8 := L.flatMap fun t => putB t.2.2
theorem putNum_len (n : Nat) : (putNum n).length ≤ 9 := by simp [putNum]; exact low_len n
theorem putNum_pos (n : Nat) : 1 ≤ (putNum n).length := by simp [putNum]
theorem putB_len (l : List UInt8) : (putB l).length ≤ l.length + 9 := by have := putNum_len l.length; simp [putB]; omega
theorem putAll_snoc (L : List (Option Addr × Nat × List UInt8)) (k : Nat) (h : k < L.length) : putAll (L.take (k + 1)) = putAll (L.take k) ++ putNum L[k].2.2.length ++ L[k].2.2 := by
  rw [List.take_succ_eq_append_getElem h]; unfold putAll; rw [List.flatMap_append]; simp [putB]
theorem putAll_le (L : List (Option Addr × Nat × List UInt8)) (k : Nat) : (putAll (L.take k)).length ≤ (putAll L).length := by
  conv => rhs; rw [← List.take_append_drop k L]
  unfold putAll; rw [List.flatMap_append]; simp

set_option maxHeartbeats 1000000 in
theorem putBytesB (A X : Option Addr) (c d : Nat) (b : List UInt8) (L : List (Option Addr × Nat × List UInt8)) (w : World) (h : RB w A b) (hX : RBB w X L) (hL : L.length ≤ 9223372036854775807)
    (hl : b.length + (putAll L).length ≤ 218000000000000) :
    Calls Try.prog 17 #[.slice A b.length c, .slice X L.length d] w (NewB w (b ++ putAll L)) := by
  go_enter Try.func17, Try.ntmps17
  go_wp2_with fail
  refine (cloneB A c b _ h (by omega)).mono ?_
  rintro e w1 ⟨k1, A1, c1, hk1, hk2, hk3, rfl, ho1, hb1⟩
  go_wp2_with fail
  go_loopw [5, 12] (fun v i wr => ∃ (k : Nat) (q : List UInt8) (B : Option Addr) (cb : Nat), k ≤ L.length ∧ i = .int .i64 (k : Int) ∧ v = .slice B q.length cb ∧
      Hid (q = b ++ putAll (L.take k)) ∧ OB wr w.heap.size B cb q ∧ Below w.heap.size w wr)
    (fun _ i _ => L.length - (intOf i).toNat)
  case atStart => exact ⟨0, k1, A1, c1, Nat.zero_le _, rfl, rfl, Lib.hid (by rw [hk1.out]; simp [putAll]), ho1, hb1⟩
  case round =>
    obtain ⟨k, q, B, cb, hk, rfl, rfl, hq, ho, hb⟩ := hrel
    by_cases hlt : k < L.length
    · obtain ⟨bb, off, rfl, hbl, hc⟩ := (hX.below hb).cell hlt
      obtain ⟨hr1, hr2⟩ := hX.each L[k] (List.getElem_mem hlt)
      have hq1 : q.length + 9 + L[k].2.2.length ≤ 219000000000000 := by
        have h1 := putAll_le L (k + 1)
        rw [putAll_snoc L k hlt] at h1
        have h2 := congrArg List.length hq.out
        simp at h1 h2
        omega
      obtain ⟨y, hy⟩ : ∃ y, y = L[k].2.2 := ⟨_, rfl⟩
      obtain ⟨Y, hY⟩ : ∃ Y, Y = L[k].1 := ⟨_, rfl⟩
      obtain ⟨z, hz⟩ : ∃ z, z = L[k].2.1 := ⟨_, rfl⟩
      rw [← hy, ← hY, ← hz] at hc
      rw [← hy] at hq1 hr2
      rw [← hy, ← hY] at hr1
      have HY := Lib.hid hy
      clear hy hY hz hk1 hk2 hk3 ho1 hb1
      go_wp2_with fail
      refine (putNumB B cb q y.length _ ho.rb (by omega) (by omega) (by omega)).mono ?_
      rintro e w2 ⟨k2, A2, c2, hk2, hk21, hk22, rfl, ho2, hb2⟩
      have hk2b : k2.length ≤ q.length + 9 := by
        have := putNum_len (y.length : Int).toNat; rw [List.length_append] at hk21; omega
      have hr2' : RB w2 Y y := (hr1.below hb).below hb2
      have hb2' : Below w.heap.size w w2 := hb.trans (hb2.mono hb.size)
      have H2 := Lib.hid (show k2 = q ++ putNum y.length by rw [hk2.out]; simp)
      clear hk2 hk21 hk22
      go_wp2_with (at_builtin; refine wp_appendB _ rfl (.tmp 20) (.tmp 21) rfl w.heap.size _ _ _ _ k2 y rfl rfl (ho2.base_le hb.size) hr2' (by omega) hb2'.size ?_; intro k4 A4 c4 w4 hk4 hk41 hk42 ho4 hg4)
      have hb4 : Below w.heap.size w w4 := hb2'.grown hg4 hb2'.size fun g hg => by have := (ho2.own_lt g hg).1; have := hb.size; omega
      have H4 : Hid (k4 = b ++ putAll (L.take (k + 1))) := Lib.hid (by
        rw [hk4.out, H2.out, hq.out, putAll_snoc L k hlt, ← HY.out]; simp)
      clear hk4 hk41 hk42 hg4 hb2 hb2' ho2 hr2' ho hb hq H2 hc hr1
      go_roundw
      case rel => exact ⟨k + 1, k4, A4, c4, by omega, by go_num, rfl, H4, ho4, hb4⟩
      case measure => simp [intOf]; omega
    · go_wp2_with fail
      go_ret
      exact newB (by rw [hq.out, List.take_of_length_le (by omega)]) ho hb

set_option maxHeartbeats 400000 in
theorem refPutBytes (A : Option Addr) (c : Nat) (l : List UInt8) (w : World) (h : RB w A l) (hl : l.length ≤ 219000000000000) :
    Calls Try.prog 19 #[.slice A l.length c] w (NewB w (putB l)) := by
  go_enter Try.func19, Try.ntmps19
  go_wp2_with fail
  refine (refPutNum l.length w (by omega) (by omega)).mono ?_
  rintro e w2 ⟨k2, A2, c2, hk2, hk21, hk22, rfl, ho2, hb2⟩
  have hk2b : k2.length ≤ 9 := by have := putNum_len (l.length : Int).toNat; omega
  have H2 := Lib.hid (show k2 = putNum l.length by rw [hk2.out]; simp)
  clear hk2 hk21 hk22
  go_wp2_with (at_builtin; refine wp_appendB _ rfl (.tmp 6) (.tmp 7) rfl w.heap.size _ _ _ _ k2 l rfl rfl ho2 (h.below hb2) (by omega) hb2.size ?_; intro k4 A4 c4 w4 hk4 hk41 hk42 ho4 hg4)
  go_ret
  exact newB (by rw [hk4.out, H2.out]; rfl) ho4 (hb2.grown hg4 hb2.size fun g hg => (ho2.own_lt g hg).1)
end Go.Proofs.Ytekkcbonkjdgeaa
