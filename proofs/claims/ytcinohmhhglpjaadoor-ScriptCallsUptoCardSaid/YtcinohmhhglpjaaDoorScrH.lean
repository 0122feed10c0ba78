/- Contracts: codec.Unhex; the reader's key. -/
import Derived.Test.YtcinohmhhglpjaaDoorScrN
import Derived.IntWalk
import Derived.Test.YtcinohmhhglpjaaDoorScrRw
namespace Go.Proofs.YtcinohmhhglpjaaDoor
open Go.RowKit

def figI (x : UInt8) : Int := match unfig x with
  | some n => (n : Int)
  | none => -1
theorem figI_fin : ∀ n : Fin 256, Lib.indexByte figures (UInt8.ofNat n.1) = figI (UInt8.ofNat n.1) := by decide +kernel
theorem figI_eq (x : UInt8) : Lib.indexByte figures x = figI x := by
  have := figI_fin ⟨x.toNat, x.toNat_lt⟩
  simpa using this
theorem figIdx (x : UInt8) (w : World) : Calls Tryd.prog 81 #[.string ⟨#[48, 49, 50, 51, 52, 53, 54, 55, 56, 57, 97, 98, 99, 100, 101, 102]⟩, .int .u8 (x.toNat : Int)] w fun e w' => e = .returned (.int .i64 (figI x)) ∧ w' = w := by
  refine (Tryd.strings_IndexByte _ _ _).mono ?_
  rintro e w' ⟨rfl, rfl⟩
  refine ⟨?_, rfl⟩
  have e1 : ((x.toNat : Int)).toNat.toUInt8 = x := by simp
  rw [e1]
  have := figI_eq x
  unfold figures at this
  rw [← this]
theorem figI_some {x : UInt8} {n : Nat} (h : unfig x = some n) : figI x = n := by unfold figI; rw [h]
theorem figI_none {x : UInt8} (h : unfig x = none) : figI x = -1 := by unfold figI; rw [h]
theorem unhex_no {s : List UInt8} {k : Nat} (h : k < s.length) (hc : unfig s[k] = none) : unhex s = none := by
  cases e : unhex s with
  | none => rfl
  | some t =>
    have := (unhex_all e).1 _ (List.getElem_mem h)
    rw [hc] at this
    cases this
theorem unhex_odd {s : List UInt8} (h : ¬ s.length % 2 = 0) : unhex s = none := by
  cases e : unhex s with
  | none => rfl
  | some t =>
    have := (unhex_all e).2
    omega
theorem or16_fin : ∀ a b : Fin 16, bits BinOp.or IntKind.i64 ((a.1 : Int) * 16) (b.1 : Int) = ((16 * a.1 + b.1 : Nat) : Int) := by decide +kernel
theorem or16 {a b : Nat} (ha : a < 16) (hb : b < 16) : bits BinOp.or IntKind.i64 ((a : Int) * 16) (b : Int) % 256 = ((UInt8.ofNat (16 * a + b)).toNat : Int) := by
  have := or16_fin ⟨a, ha⟩ ⟨b, hb⟩
  simp only at this
  rw [this, UInt8.toNat_ofNat']
  omega
theorem at_next (s : List UInt8) (n : Nat) (h : n + 1 < s.length) (hs : s.length ≤ 140737488351232) (W : World) : (Instr.index 9 (.string ⟨s.toArray⟩) (.int .i64 ((n : Int) + 1))).run Tryd.prog W = .ok (.int .u8 ((s[n + 1]).toNat : Int)) W := by
  have hsz : (⟨s.toArray⟩ : ByteArray).size = s.length := by simp [ByteArray.size]
  have h0 : 0 ≤ (n : Int) + 1 := by omega
  have h1 : ((n : Int) + 1).toNat = n + 1 := by omega
  have h2 : (n : Int) + 1 < (s.length : Int) := by omega
  have h3 : n + 1 < (⟨s.toArray⟩ : ByteArray).size := by rw [hsz]; exact h
  go_simp
  rfl
theorem at_here (s : List UInt8) (n : Nat) (h : n < s.length) (W : World) : (Instr.index 9 (.string ⟨s.toArray⟩) (.int .i64 (n : Int))).run Tryd.prog W = .ok (.int .u8 ((s[n]).toNat : Int)) W := by
  have hsz : (⟨s.toArray⟩ : ByteArray).size = s.length := by simp [ByteArray.size]
  have h3 : n < (⟨s.toArray⟩ : ByteArray).size := by rw [hsz]; exact h
  go_simp
  rfl
/-- What Unhex answers. -/
def UnhexE (s : List UInt8) (w : World) (e : Ending) (w' : World) : Prop :=
  Below w.heap.size w w' ∧ ((∃ k A c, unhex s = some k ∧ e = .returned (.tuple #[.slice A k.length c, .bool true]) ∧ OB w' w.heap.size A c k) ∨ (unhex s = none ∧ e = .returned (.tuple #[.slice none 0 0, .bool false])))

set_option maxRecDepth 20000 in
set_option maxHeartbeats 4000000 in
theorem unhexC (s : List UInt8) (hs : s.length ≤ 140737488351232) (w : World) : Calls Tryd.prog 69 #[.string ⟨s.toArray⟩] w (UnhexE s w) := by
  have hsz : (⟨s.toArray⟩ : ByteArray).size = s.length := by simp [ByteArray.size]
  by_cases hev : s.length % 2 = 0
  · go_enter Tryd.func69, Tryd.ntmps69
    go_wp2_with fail
    go_loopw [4, 5] (fun o i wr => ∃ (n : Nat) (A : Option Addr) (c : Nat) (t : List UInt8), n ≤ s.length ∧ n % 2 = 0 ∧ i = .int .i64 (n : Int) ∧ o = .slice A t.length c ∧ t.length ≤ n ∧ Hid (unhex (s.take n) = some t) ∧ Hid (OB wr w.heap.size A c t) ∧ Hid (Below w.heap.size w wr)) (fun _ i _ => s.length - (intOf i).toNat)
    case atStart => exact ⟨0, none, 0, [], Nat.zero_le _, rfl, rfl, rfl, Nat.zero_le _, Lib.hid rfl, Lib.hid (OB.nil _ _), Lib.hid (Below.refl _ _)⟩
    case round =>
      obtain ⟨n, A, c, t, hk, hn2, rfl, rfl, htl, hv, HO, HB⟩ := hrel
      have hsb := HB.out.size
      by_cases hlt : n < s.length
      · have hlt1 : n + 1 < s.length := by omega
        have HTK : Hid (s.take (n + 2) = s.take n ++ [s[n], s[n + 1]]) := Lib.hid (by rw [show n + 2 = (n + 1) + 1 by omega, List.take_succ_eq_append_getElem hlt1, List.take_succ_eq_append_getElem hlt, List.append_assoc]; rfl)
        have HN0 := Lib.hid (unhex_no hlt)
        have HN1 := Lib.hid (unhex_no hlt1)
        have HF0 := Lib.hid (fun (x y : Nat) (h0 : unfig s[n] = some x) (h1 : unfig s[n + 1] = some y) => unhex_snoc _ _ _ _ _ _ hv.out h0 h1)
        have hw1 : IntKind.i64.wrap ((n : Int) + 1) = (n : Int) + 1 := IntWalk.i64_in _ (by omega)
        have hw2 := at_next s n hlt1 hs
        have hw3 := at_here s n hlt
        cases h0 : unfig s[n] with
        | none =>
          have f0 := figI_none h0
          have HNO := Lib.hid (HN0.out h0)
          have f1 : -1 ≤ figI s[n + 1] ∧ figI s[n + 1] < 16 := by
            unfold figI
            split
            · rename_i m hm; have := (unfig_lt hm).1; omega
            · omega
          obtain ⟨f1a, f1b⟩ := f1
          clear h0 HN0 HN1 HTK HF0
          go_wp2_with fail
          go_quiet ((go_at_call 81; exact Calls.quiet_of_same (figIdx _ _)))
          clear hw1 hw2 hw3
          go_wp2_with fail
          go_ret2
          exact ⟨belowN HB.out _, .inr ⟨HNO.out, rfl⟩⟩
        | some a =>
          cases h1 : unfig s[n + 1] with
          | none =>
            have f0 := figI_some h0
            have f1 := figI_none h1
            have HNO := Lib.hid (HN1.out h1)
            clear h0 h1 HN0 HN1 HTK HF0
            go_wp2_with fail
            go_quiet ((go_at_call 81; exact Calls.quiet_of_same (figIdx _ _)))
            clear hw1 hw2 hw3
            go_wp2_with fail
            go_ret2
            exact ⟨belowN HB.out _, .inr ⟨HNO.out, rfl⟩⟩
          | some b =>
            have f0 := figI_some h0
            have f1 := figI_some h1
            have ha := (unfig_lt h0).1
            have hb := (unfig_lt h1).1
            have HH : Hid (unhex (s.take (n + 2)) = some (t ++ [UInt8.ofNat (16 * a + b)])) := Lib.hid (by rw [HTK.out]; exact HF0.out _ _ h0 h1)
            clear h0 h1 HN0 HN1 HTK HF0
            go_wp2_with fail
            go_quiet ((go_at_call 81; exact Calls.quiet_of_same (figIdx _ _)))
            clear hw1 hw2 hw3
            have HV := Lib.hid (or16 ha hb)
            generalize UInt8.ofNat (16 * a + b) = x at *
            have hbq : Below wr.heap.size wr (wr.drewN nq) := belowN (Below.refl _ _) _
            have HOq := Lib.hid (HO.out.below hbq)
            have HBq := Lib.hid (belowN HB.out nq)
            go_wp2_with (at_builtin; refine wp_appendB _ rfl _ _ rfl w.heap.size A (some ⟨wr.heap.size, 0, none⟩) c 1 t [x] rfl rfl (HOq.out.alloc _) (RB.one (wr.drewN nq) _ HV.out) (by simp; omega) (by simp; omega) ?_)
            intro k2 A2 c2 w2 hk2 hk2a hk2b ho2 hg2
            have HB2 := Lib.hid (OB.gb hg2 (HOq.out.alloc _) (HBq.out.alloc (by simpa using hsb) _) (by simp; omega))
            have HO2 := Lib.hid ho2
            have hkl : k2.length ≤ n + 2 := by first | omega | (simp at hk2a; omega)
            clear ho2 hg2 hk2a hk2b HO HB HOq HBq hbq
            go_wp2_with fail
            go_roundw
            case rel => exact ⟨n + 2, A2, c2, k2, by omega, by omega, by go_num, rfl, hkl, Lib.hid (by rw [hk2.out]; exact HH.out), HO2, HB2⟩
            case measure => simp [intOf]; omega
      · obtain rfl : n = s.length := by omega
        have HU : Hid (unhex s = some t) := Lib.hid (by have := hv.out; rwa [List.take_of_length_le (Nat.le_refl _)] at this)
        go_wp2_with fail
        go_ret2
        exact ⟨HB.out, .inl ⟨t, A, c, HU.out, rfl, HO.out⟩⟩
  · have hno := unhex_odd hev
    have HNO := Lib.hid hno
    have hmod : (s.length : Int) % 2 = 1 := by omega
    clear hno
    go_enter Tryd.func69, Tryd.ntmps69
    go_wp2_with fail
    go_ret2
    exact ⟨Below.refl _ _, .inr ⟨HNO.out, rfl⟩⟩
end Go.Proofs.YtcinohmhhglpjaaDoor
