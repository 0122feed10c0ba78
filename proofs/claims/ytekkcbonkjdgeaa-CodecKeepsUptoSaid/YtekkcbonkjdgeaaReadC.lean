/- Contracts of codec.Bytes and of its reference. -/
import Derived.Test.YtekkcbonkjdgeaaReadB
namespace Go.Proofs.Ytekkcbonkjdgeaa
open Go.RowKit

theorem RB.partR {w : World} {bb off : Nat} {b : List UInt8} (h : RB w (some ⟨bb, off, none⟩) b) (f n : Nat) : RB w (some ⟨bb, off + f, none⟩) ((b.drop f).take n) := by
  refine ⟨fun hn => ?_⟩
  have hf : f < b.length := by
    simp at hn; omega
  obtain ⟨b', off', e, hb, hc⟩ := h.at_ (by omega)
  injection e with e
  injection e with e1 e2
  subst e1 e2
  refine ⟨bb, off + f, rfl, hb, fun j x hx => ?_⟩
  have := hc (f + j) x (by
    rw [List.getElem?_take] at hx
    split at hx
    · rw [List.getElem?_drop] at hx; exact hx
    · cases hx)
  rw [Nat.add_assoc]
  exact this
theorem cloneB' (A : Option Addr) (c n : Nat) (l : List UInt8) (hn : l.length = n) (w : World) (h : RB w A l) (hl : n ≤ 210000000000000) :
    Calls Try.prog 45 #[.slice A n c] w (NewB w l) := by
  subst hn; exact cloneB A c l w h (by omega)

/-- What Bytes and Unframe end in. -/
def DatE (L : Nat) (p : List UInt8 × Int × Int) (w : World) (e : Ending) (w' : World) : Prop :=
  ∃ (k : List UInt8) (A : Option Addr) (c : Nat), Hid (k = p.1) ∧ k.length ≤ L ∧ e = .returned (.tuple #[.slice A k.length c, .int .i64 p.2.1, .int .i64 p.2.2]) ∧ RB w' A k ∧ Below w.heap.size w w'
theorem datE_no {L : Nat} {p : List UInt8 × Int × Int} {er : Int} {w w' : World} (h : p = ([], 0, er)) (hb : Below w.heap.size w w') : DatE L p w (.returned (.tuple #[.slice none 0 0, .int .i64 0, .int .i64 er])) w' := by
  subst h; exact ⟨[], none, 0, Lib.hid rfl, Nat.zero_le _, rfl, RB.nil, hb⟩
theorem datE_yes {L : Nat} {p : List UInt8 × Int × Int} {k : List UInt8} {A : Option Addr} {c : Nat} {x y : Int} {w w' : World} (h : p = (k, x, y)) (hl : k.length ≤ L) (hr : RB w' A k) (hb : Below w.heap.size w w') : DatE L p w (.returned (.tuple #[.slice A k.length c, .int .i64 x, .int .i64 y])) w' := by
  subst h; exact ⟨k, A, c, Lib.hid rfl, hl, rfl, hr, hb⟩

theorem bytesAt_err {b : List UInt8} {i : Int} (h : (numAt b i).2.2 ≠ 0) : bytesAt b i = ([], 0, (numAt b i).2.2) := by rw [bytesAt, if_neg h]
theorem bytesAt_short {b : List UInt8} {i : Int} (h : (numAt b i).2.2 = 0) (hs : (b.length : Int) < (numAt b i).2.1 + (numAt b i).1) : bytesAt b i = ([], 0, 5) := by rw [bytesAt, if_pos h, if_neg (by omega)]
theorem bytesAt_yes {b : List UInt8} {i : Int} (h : (numAt b i).2.2 = 0) (hs : ¬ (b.length : Int) < (numAt b i).2.1 + (numAt b i).1) : bytesAt b i = ((b.drop (numAt b i).2.1.toNat).take (numAt b i).1.toNat, (numAt b i).2.1 + (numAt b i).1, 0) := by rw [bytesAt, if_pos h, if_pos (by omega)]

set_option maxRecDepth 20000 in
set_option maxHeartbeats 2000000 in
theorem codecBytes (A : Option Addr) (c : Nat) (b : List UInt8) (i : Int) (w : World) (h : RB w A b) (hc : b.length ≤ c) (hm : c ≤ 9223372036854775807) (hl : b.length ≤ 210000000000000) (hi : -9223372036854775808 ≤ i ∧ i ≤ 9223372036854775807) :
    Calls Try.prog 40 #[.slice A b.length c, .int .i64 i] w (DatE b.length (bytesAt b i) w) := by
  have N := Lib.hid (codecNum A c b i w h hc hm hl hi)
  obtain ⟨r1, r2, r3, r4, r5, r6⟩ := numAt_range b i
  have HO := Lib.hid (fun h => numAt_ok (b := b) (i := i) h)
  have HE := Lib.hid (fun h => bytesAt_err (b := b) (i := i) h)
  have HS := Lib.hid (fun h hs => bytesAt_short (b := b) (i := i) h hs)
  have HY := Lib.hid (fun h hs => bytesAt_yes (b := b) (i := i) h hs)
  unfold NumE at N
  generalize (numAt b i).1 = n at *
  generalize (numAt b i).2.1 = f at *
  generalize (numAt b i).2.2 = er at *
  generalize bytesAt b i = p at *
  by_cases her : er = 0
  · obtain ⟨hi0, hf1, _⟩ := HO.out her
    subst her
    by_cases hs : (b.length : Int) < f + n
    · have HP := Lib.hid (HS.out rfl hs)
      clear HO HE HS HY
      go_enter Try.func40, Try.ntmps40
      go_wp2_with fail
      refine N.out.mono ?_
      rintro e w' ⟨rfl, rfl⟩
      go_wp2_with fail
      go_ret3
      exact datE_no HP.out (Below.refl _ _)
    · have HP := Lib.hid (HY.out rfl hs)
      clear HO HE HS HY
      obtain ⟨f, rfl⟩ := Int.eq_ofNat_of_zero_le r3
      obtain ⟨n, rfl⟩ := Int.eq_ofNat_of_zero_le r1
      have hA : ∃ bb off, A = some ⟨bb, off, none⟩ := by
        obtain ⟨bb, off, e, _⟩ := h.at_ (by omega)
        exact ⟨bb, off, e⟩
      obtain ⟨bb, off, rfl⟩ := hA
      have hlen : ((b.drop f).take n).length = n := by rw [List.length_take, List.length_drop]; omega
      have hpart := h.partR f n
      by_cases hfc : f < c
      · have C := Lib.hid (fun A' (hA' : RB w A' ((b.drop f).take n)) => cloneB' A' (c - f) n _ hlen w hA' (by omega))
        have C1 := Lib.hid (C.out _ hpart)
        clear hlen hpart C
        go_enter Try.func40, Try.ntmps40
        go_wp2_with fail
        refine N.out.mono ?_
        rintro e w' ⟨rfl, rfl⟩
        go_wp2_with fail
        refine C1.out.mono ?_
        rintro e w2 ⟨k, A2, c2, hk, hk1, hk2, rfl, ho2, hb2⟩
        go_wp2_with fail
        go_ret3
        exact datE_yes (k := k) (by rw [HP.out, hk.out]; simp) (by simp at hk1; omega) ho2.rb hb2
      · obtain rfl : f = c := by omega
        obtain rfl : n = 0 := by omega
        have C1 := Lib.hid (cloneB' (some ⟨bb, off, none⟩) 0 0 [] rfl w RB.nil (by omega))
        clear hlen hpart
        go_enter Try.func40, Try.ntmps40
        go_wp2_with fail
        refine N.out.mono ?_
        rintro e w' ⟨rfl, rfl⟩
        go_wp2_with fail
        refine C1.out.mono ?_
        rintro e w2 ⟨k, A2, c2, hk, hk1, hk2, rfl, ho2, hb2⟩
        go_wp2_with fail
        go_ret3
        exact datE_yes (k := k) (by rw [HP.out, hk.out]; simp) (by rw [hk.out]; simp) ho2.rb hb2
  · have hne : (er != 0) = true := by simpa using her
    have HP := Lib.hid (HE.out her)
    clear HO HE HS HY her
    go_enter Try.func40, Try.ntmps40
    go_wp2_with fail
    refine N.out.mono ?_
    rintro e w' ⟨rfl, rfl⟩
    go_wp2_with fail
    go_ret3
    exact datE_no HP.out (Below.refl _ _)

set_option maxRecDepth 20000 in
set_option maxHeartbeats 2000000 in
theorem refBytes (A : Option Addr) (c : Nat) (b : List UInt8) (i : Int) (w : World) (h : RB w A b) (hc : b.length ≤ c) (hm : c ≤ 9223372036854775807) (hl : b.length ≤ 210000000000000) (hi : -9223372036854775808 ≤ i ∧ i ≤ 9223372036854775807) :
    Calls Try.prog 41 #[.slice A b.length c, .int .i64 i] w (DatE b.length (bytesAt b i) w) := by
  have N := Lib.hid (refNum A c b i w h hl hi)
  obtain ⟨r1, r2, r3, r4, r5, r6⟩ := numAt_range b i
  have HO := Lib.hid (fun h => numAt_ok (b := b) (i := i) h)
  have HE := Lib.hid (fun h => bytesAt_err (b := b) (i := i) h)
  have HS := Lib.hid (fun h hs => bytesAt_short (b := b) (i := i) h hs)
  have HY := Lib.hid (fun h hs => bytesAt_yes (b := b) (i := i) h hs)
  unfold NumE at N
  generalize (numAt b i).1 = n at *
  generalize (numAt b i).2.1 = f at *
  generalize (numAt b i).2.2 = er at *
  generalize bytesAt b i = p at *
  by_cases her : er = 0
  · obtain ⟨hi0, hf1, _⟩ := HO.out her
    subst her
    by_cases hs : (b.length : Int) < f + n
    · have HP := Lib.hid (HS.out rfl hs)
      clear HO HE HS HY
      by_cases hbig : (b.length : Int) < n
      · go_enter Try.func41, Try.ntmps41
        go_wp2_with fail
        refine N.out.mono ?_
        rintro e w' ⟨rfl, rfl⟩
        go_wp2_with fail
        go_ret3
        exact datE_no HP.out (Below.refl _ _)
      · go_enter Try.func41, Try.ntmps41
        go_wp2_with fail
        refine N.out.mono ?_
        rintro e w' ⟨rfl, rfl⟩
        go_wp2_with fail
        go_ret3
        exact datE_no HP.out (Below.refl _ _)
    · have HP := Lib.hid (HY.out rfl hs)
      clear HO HE HS HY
      obtain ⟨f, rfl⟩ := Int.eq_ofNat_of_zero_le r3
      obtain ⟨n, rfl⟩ := Int.eq_ofNat_of_zero_le r1
      have hA : ∃ bb off, A = some ⟨bb, off, none⟩ := by
        obtain ⟨bb, off, e, _⟩ := h.at_ (by omega)
        exact ⟨bb, off, e⟩
      obtain ⟨bb, off, rfl⟩ := hA
      have hlen : ((b.drop f).take n).length = n := by rw [List.length_take, List.length_drop]; omega
      have hpart := h.partR f n
      by_cases hfc : f < c
      · obtain ⟨l, hl'⟩ : ∃ l, l = (b.drop f).take n := ⟨_, rfl⟩
        rw [← hl'] at hlen hpart
        have HL := Lib.hid hl'
        clear hl'
        subst hlen
        have hbig : decide (b.length < l.length) = false := by simp; omega
        have hsub : f + l.length - f = l.length := by omega
        go_enter Try.func41, Try.ntmps41
        go_wp2_with fail
        refine N.out.mono ?_
        rintro e w' ⟨rfl, rfl⟩
        go_wp2_with (at_builtin; refine wp_appendB _ rfl (.tmp 34) (.tmp 41) rfl w.heap.size _ (some ⟨bb, off + f, none⟩) _ (c - f) [] l rfl (by show Value.slice _ (f + l.length - f) _ = _; rw [hsub]) (OB.made0 _ (Nat.le_refl _)) (hpart.alloc _) (by simp; omega) (by simp) ?_; intro k A' c' w' hk hk1 hk2 hob hg)
        go_ret3
        exact datE_yes (k := k) (by rw [HP.out, hk.out, HL.out]; simp) (by simp at hk1; omega) hob.rb (((Below.refl _ _).alloc (Nat.le_refl _) _).grown hg (by simp) (by simp [Value.ownBlock]))
      · obtain rfl : f = c := by omega
        obtain rfl : n = 0 := by omega
        go_enter Try.func41, Try.ntmps41
        go_wp2_with fail
        refine N.out.mono ?_
        rintro e w' ⟨rfl, rfl⟩
        go_wp2_with (at_builtin; refine wp_appendB _ rfl (.tmp 34) (.tmp 41) rfl w.heap.size _ _ _ _ [] [] rfl rfl (OB.made0 _ (Nat.le_refl _)) RB.nil (by simp) (by simp) ?_; intro k A' c' w' hk hk1 hk2 hob hg)
        go_ret3
        exact datE_yes (k := k) (by rw [HP.out, hk.out]; simp) (by rw [hk.out]; simp) hob.rb (((Below.refl _ _).alloc (Nat.le_refl _) _).grown hg (by simp) (by simp [Value.ownBlock]))
  · have hne : (er != 0) = true := by simpa using her
    have HP := Lib.hid (HE.out her)
    clear HO HE HS HY her
    go_enter Try.func41, Try.ntmps41
    go_wp2_with fail
    refine N.out.mono ?_
    rintro e w' ⟨rfl, rfl⟩
    go_wp2_with fail
    go_ret3
    exact datE_no HP.out (Below.refl _ _)
end Go.Proofs.Ytekkcbonkjdgeaa
