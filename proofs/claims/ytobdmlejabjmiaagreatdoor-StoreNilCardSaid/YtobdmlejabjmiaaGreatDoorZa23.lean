/- Put together of: StoA, PlanP, StoB. -/
import Derived.Test.YtobdmlejabjmiaaGreatDoorZa22
import Derived.Test.YtobdmlejabjmiaaGreatDoorZa03
import Derived.Test.YtobdmlejabjmiaaGreatDoorZa02
import Derived.Test.YtobdmlejabjmiaaGreatDoorZa04
import Derived.Deep.QuietTactic
import Derived.BigQuiet
/- Contracts: lists of numbers that rise (package msg's and the reference's); out's writers. -/
namespace Go.Proofs.YtobdmlejabjmiaaGreatDoor
open Go.RowKit
section
variable {w w' : World}
theorem rv_mods {T : Nat → Prop} {A : Option Addr} {xs : List Value} (h : RV w A xs) (m : Mods T w w') (hn : 0 < xs.length → ∀ k, A.map (·.block) = some k → ¬ T k) : RV w' A xs :=
  ⟨fun h0 => by
    obtain ⟨b, off, rfl, hb, hc⟩ := h.at_ h0
    exact ⟨b, off, rfl, Nat.lt_of_lt_of_le hb m.size, fun j u hu => (m.cell (p := ⟨b, off + j, none⟩) hb (hn h0 b rfl)).trans (hc j u hu)⟩⟩
theorem RV.int {k : IntKind} {A : Option Addr} {l : List Int} (h : RV w A (ncells k l)) {j : Nat} (hj : j < l.length) : ∃ b off, A = some ⟨b, off, none⟩ ∧ b < w.heap.size ∧ w.cell? ⟨b, off + j, none⟩ = some (.int k l[j]) := by
  obtain ⟨b, off, rfl, hb, hc⟩ := h.cell (j := j) (by rw [ncells_length]; exact hj)
  rw [show (ncells k l)[j]'(by rw [ncells_length]; exact hj) = .int k l[j] from by simp [ncells]] at hc
  exact ⟨b, off, rfl, hb, hc⟩
theorem getD_at {l : List Int} {k : Nat} (h : k < l.length) : l.getD k 0 = l[k] := by simp [List.getD_eq_getElem?_getD, h]
set_option maxHeartbeats 2000000 in
theorem msgRises (A : Option Addr) (c : Nat) (l : List Int) (w : World) (h : RV w A (ncells .i64 l)) (hl : l.length ≤ 9223372036854775807) :
    Calls Tryz.prog 158 #[.slice A l.length c] w fun e w' => e = .returned (.bool (risesB l)) ∧ w = w' := by
  have HR := Lib.hid h
  clear h
  go_enter Tryz.func158, Tryz.ntmps158
  go_wp2_with fail
  go_loop [7] (fun i => ∃ k : Nat, k ≤ l.length ∧ i = .int .i64 (k : Int) ∧ Hid (∀ j, j < k → riseAt l j = true))
    (fun i => l.length - (intOf i).toNat)
  case atStart => exact ⟨0, Nat.zero_le _, rfl, Lib.hid (fun j hj => absurd hj (Nat.not_lt_zero _))⟩
  case round =>
    obtain ⟨k, hk, rfl, HK⟩ := hrel
    by_cases hlt : k < l.length
    · obtain ⟨b, off, rfl, hb, hc⟩ := HR.out.int hlt
      have HX := Lib.hid (getD_at hlt)
      obtain ⟨x, hx⟩ : ∃ x, x = l[k] := ⟨_, rfl⟩
      rw [← hx] at hc HX
      clear hx
      by_cases h1 : x < 1
      · have HF : Hid (risesB l = false) := Lib.hid (risesB_no hlt (by unfold riseAt; rw [HX.out]; simp; omega))
        go_wp2_with fail
        go_ret
        exact ⟨by rw [HF.out]; rfl, rfl⟩
      · by_cases h2 : 16 < x
        · have HF : Hid (risesB l = false) := Lib.hid (risesB_no hlt (by unfold riseAt; rw [HX.out]; simp; omega))
          go_wp2_with fail
          go_ret
          exact ⟨by rw [HF.out]; rfl, rfl⟩
        · by_cases h0 : k = 0
          · subst h0
            rw [Nat.add_zero] at hc
            have HT : Hid (∀ j, j < 0 + 1 → riseAt l j = true) := Lib.hid (fun j hj => by
              obtain rfl : j = 0 := by omega
              unfold riseAt; rw [HX.out]; simp; omega)
            clear HK HX
            go_wp2_with fail
            go_round
            case rel => exact ⟨0 + 1, by omega, by go_num, HT⟩
            case measure => simp [intOf]; omega
          · obtain ⟨b', off', e', hb', hc'⟩ := HR.out.int (j := k - 1) (by omega)
            injection e' with e'
            injection e' with e1 e2
            subst e1 e2
            have HY := Lib.hid (getD_at (l := l) (k := k - 1) (by omega))
            obtain ⟨y, hy⟩ : ∃ y, y = l[k - 1] := ⟨_, rfl⟩
            rw [← hy] at hc' HY
            clear hy
            have hk1 : ((k : Int) - 1).toNat = k - 1 := by omega
            have hk2 : (k : Int) - 1 = ((k - 1 : Nat) : Int) := by omega
            by_cases h3 : x ≤ y
            · have HF : Hid (risesB l = false) := Lib.hid (risesB_no hlt (by unfold riseAt; rw [HX.out, HY.out]; simp; omega))
              go_wp2_with fail
              go_ret
              exact ⟨by rw [HF.out]; rfl, rfl⟩
            · have HT : Hid (∀ j, j < k + 1 → riseAt l j = true) := Lib.hid (fun j hj => by
                rcases Nat.lt_or_ge j k with h | h
                · exact HK.out j h
                · obtain rfl : j = k := by omega
                  unfold riseAt; rw [HX.out, HY.out]; simp; omega)
              clear HK HX HY
              go_wp2_with fail
              go_round
              case rel => exact ⟨k + 1, by omega, by go_num, HT⟩
              case measure => simp [intOf]; omega
    · have HF : Hid (risesB l = true) := Lib.hid (risesB_yes fun j hj => HK.out j (by omega))
      go_wp2_with fail
      go_ret
      exact ⟨by rw [HF.out]; rfl, rfl⟩
/-- What out has written. -/
def OutAt (B o : Nat) (w : World) (l : List UInt8) : Prop := ∃ A c, Blk w o 182 #[.slice A l.length c] ∧ OB w B A c l
theorem OutAt.below {B o : Nat} {l : List UInt8} (h : OutAt B o w l) (hb : Below w.heap.size w w') : OutAt B o w' l := by
  obtain ⟨A, c, h1, h2⟩ := h
  exact ⟨A, c, h1.kept hb, h2.below hb⟩
theorem OutAt.cast {B o : Nat} {l m : List UInt8} (h : OutAt B o w l) (e : l = m) : OutAt B o w m := by subst e; exact h
theorem OutAt.lt {B o : Nat} {l : List UInt8} (h : OutAt B o w l) : o < w.heap.size := by
  obtain ⟨A, c, h1, _⟩ := h
  exact h1.lt
/-- What a writer of out ends in. -/
def OutE (B o : Nat) (l : List UInt8) (w : World) (e : Ending) (w' : World) : Prop := e = .returned (.tuple #[]) ∧ OutAt B o w' l ∧ Mods (· = o) w w'
theorem out_step {B o : Nat} {A : Option Addr} {c : Nat} {l k : List UInt8} {w1 : World} (h : OutAt B o w l) (hB : B ≤ w.heap.size) (hBo : o < B) (ho : OB w1 w.heap.size A c k) (hb : Below w.heap.size w w1) :
    OutAt B o (w1.setCell ⟨o, 0, none⟩ (.slice A k.length c)) k ∧ Mods (· = o) w (w1.setCell ⟨o, 0, none⟩ (.slice A k.length c)) := by
  obtain ⟨A0, c0, h1, h2⟩ := h
  have h3 := (h1.kept hb).setCell 0 (.slice A k.length c)
  exact ⟨⟨A, c, h3, (ho.base_le hB).setCell (a := ⟨o, 0, none⟩) hBo _⟩, (Mods.of_below (S := (· = o)) hb).setCell ⟨o, 0, none⟩ (.inl rfl) _⟩
set_option maxHeartbeats 2000000 in
theorem outNums (B o : Nat) (l : List UInt8) (X : Option Addr) (cx : Nat) (ns : List Int) (w : World) (h : OutAt B o w l) (hB : B ≤ w.heap.size) (hBo : o < B) (hX : RV w X (ncells .u64 ns)) (hne : 0 < ns.length → ∀ b, X.map (·.block) = some b → b ≠ o)
    (hns : ∀ n ∈ ns, 0 ≤ n ∧ n ≤ 18446744073709551615) (hl : l.length + 9 * ns.length ≤ 200000000000000) :
    Calls Tryz.prog 109 #[.pointer (some ⟨o, 0, none⟩), .slice X ns.length cx] w (OutE B o (l ++ putNums ns) w) := by
  have HX := Lib.hid hX
  have HN := Lib.hid hne
  have HS := Lib.hid hns
  have H0 := Lib.hid h
  clear h hX hne hns
  go_enter Tryz.func109, Tryz.ntmps109
  go_wp2_with fail
  go_loopw [8] (fun i wr => ∃ k : Nat, k ≤ ns.length ∧ i = .int .i64 (k : Int) ∧ Hid (OutAt B o wr (l ++ putNums (ns.take k))) ∧ Hid (Mods (· = o) w wr))
    (fun i _ => ns.length - (intOf i).toNat)
  case atStart => exact ⟨0, Nat.zero_le _, rfl, Lib.hid (H0.out.cast (by simp [putNums])), Lib.hid (Mods.refl _ _)⟩
  case round =>
    obtain ⟨k, hk, rfl, HO, HM⟩ := hrel
    by_cases hlt : k < ns.length
    · obtain ⟨b, off, rfl, hb, hc⟩ := (rv_mods HX.out HM.out (fun _ b hb => HN.out (by omega) b hb)).int hlt
      have hr := HS.out ns[k] (List.getElem_mem hlt)
      obtain ⟨q, hq⟩ : ∃ q, q = l ++ putNums (ns.take k) := ⟨_, rfl⟩
      have hql : q.length ≤ l.length + 9 * k := by
        have := putNums_len (ns.take k)
        rw [List.length_take] at this
        rw [hq, List.length_append]
        have : min k ns.length = k := by omega
        omega
      have HQ : Hid (l ++ putNums (ns.take (k + 1)) = q ++ putNum ns[k].toNat) := Lib.hid (by rw [putNums_snoc ns k hlt, hq, List.append_assoc])
      rw [← hq] at HO
      obtain ⟨A, c, h1, h2⟩ := HO.out
      have c0 := h1.cell 0 rfl
      have f0 := h1.free 0
      obtain ⟨n, hn⟩ : ∃ n, n = ns[k] := ⟨_, rfl⟩
      rw [← hn] at hc hr HQ
      have P := Lib.hid (putNumB A c q n wr h2.rb (by omega) hr.1 hr.2)
      have HBw := HM.out.size
      clear hq h1 h2 hn
      go_wp2_with (go_at_call 98; refine P.out.mono ?_)
      rintro e w2 ⟨k2, A2, c2, hk2, hk21, hk22, rfl, ho2, hb2⟩
      have HK2 := Lib.hid (hk2.out.trans HQ.out.symm)
      have c0' := (hb2.cell (p := ⟨o, 0, none⟩) (HO.out.lt)).trans c0
      have f0' : w2.frozen? ⟨o, 0, none⟩ = false := by
        obtain ⟨A', c', h1', _⟩ := HO.out.below hb2
        exact h1'.free 0
      obtain ⟨s1, s2⟩ := out_step HO.out (Nat.le_trans hB HBw) hBo ho2 hb2
      have S1 := Lib.hid s1
      have S2 := Lib.hid (HM.out.then s2)
      clear s1 s2 ho2 hb2 hk2 hk21 hk22 P c0 f0 HQ HO HM
      go_wp2_with fail
      go_roundw
      case rel => exact ⟨k + 1, by omega, by go_num, Lib.hid (S1.out.cast HK2.out), S2⟩
      case measure => simp [intOf]; omega
    · have HO' : Hid (OutAt B o wr (l ++ putNums ns)) := Lib.hid (HO.out.cast (by rw [List.take_of_length_le (by omega)]))
      clear HO
      go_wp2_with fail
      go_end0
      exact ⟨rfl, HO'.out, HM.out⟩
set_option maxHeartbeats 2000000 in
theorem outInts (B o : Nat) (l : List UInt8) (X : Option Addr) (cx : Nat) (ns : List Int) (w : World) (h : OutAt B o w l) (hB : B ≤ w.heap.size) (hBo : o < B) (hX : RV w X (ncells .i64 ns)) (hne : 0 < ns.length → ∀ b, X.map (·.block) = some b → b ≠ o)
    (hns : ∀ n ∈ ns, 0 ≤ n ∧ n ≤ 1000000) (hl : l.length + 9 * ns.length ≤ 200000000000000) :
    Calls Tryz.prog 198 #[.pointer (some ⟨o, 0, none⟩), .slice X ns.length cx] w (OutE B o (l ++ putNums ns) w) := by
  have HX := Lib.hid hX
  have HN := Lib.hid hne
  have HS := Lib.hid hns
  have H0 := Lib.hid h
  clear h hX hne hns
  go_enter Tryz.func198, Tryz.ntmps198
  go_wp2_with fail
  go_loopw [8] (fun i wr => ∃ k : Nat, k ≤ ns.length ∧ i = .int .i64 (k : Int) ∧ Hid (OutAt B o wr (l ++ putNums (ns.take k))) ∧ Hid (Mods (· = o) w wr))
    (fun i _ => ns.length - (intOf i).toNat)
  case atStart => exact ⟨0, Nat.zero_le _, rfl, Lib.hid (H0.out.cast (by simp [putNums])), Lib.hid (Mods.refl _ _)⟩
  case round =>
    obtain ⟨k, hk, rfl, HO, HM⟩ := hrel
    by_cases hlt : k < ns.length
    · obtain ⟨b, off, rfl, hb, hc⟩ := (rv_mods HX.out HM.out (fun _ b hb => HN.out (by omega) b hb)).int hlt
      have hr := HS.out ns[k] (List.getElem_mem hlt)
      obtain ⟨q, hq⟩ : ∃ q, q = l ++ putNums (ns.take k) := ⟨_, rfl⟩
      have hql : q.length ≤ l.length + 9 * k := by
        have := putNums_len (ns.take k)
        rw [List.length_take] at this
        rw [hq, List.length_append]
        have : min k ns.length = k := by omega
        omega
      have HQ : Hid (l ++ putNums (ns.take (k + 1)) = q ++ putNums [ns[k]]) := Lib.hid (by rw [putNums_snoc ns k hlt, hq, List.append_assoc]; simp [putNums])
      rw [← hq] at HO
      obtain ⟨n, hn⟩ : ∃ n, n = ns[k] := ⟨_, rfl⟩
      rw [← hn] at hc hr HQ
      have hwn : IntKind.u64.wrap n = n := by
        rw [show IntKind.u64.wrap n = n % 18446744073709551616 from rfl]
        omega
      have HBw := HM.out.size
      have hlo := HO.out.lt
      have hal : Below wr.heap.size wr (wr.alloc (.cells #[.int .u64 n] 23)) := (Below.refl _ _).alloc (Nat.le_refl _) _
      have P := Lib.hid (outNums B o q (some ⟨wr.heap.size, 0, none⟩) 1 [n] _ (HO.out.below hal) (by simp; omega) hBo (RV.one wr (.int .u64 n) 23) (fun _ b hb => by simp at hb; omega) (fun x hx => by rw [List.mem_singleton.1 hx]; omega) (by simp; omega))
      have HAL := Lib.hid hal
      clear hq hn hal
      go_wp2_with (go_at_call 109; refine P.out.mono ?_)
      rintro e w2 ⟨rfl, ho2, hm2⟩
      have S1 := Lib.hid (ho2.cast HQ.out.symm)
      have S2 := Lib.hid ((HM.out.below HAL.out).then hm2)
      clear ho2 hm2 P HQ HO HM HAL
      go_wp2_with fail
      go_roundw
      case rel => exact ⟨k + 1, by omega, by go_num, S1, S2⟩
      case measure => simp [intOf]; omega
    · have HO' : Hid (OutAt B o wr (l ++ putNums ns)) := Lib.hid (HO.out.cast (by rw [List.take_of_length_le (by omega)]))
      clear HO
      go_wp2_with fail
      go_end0
      exact ⟨rfl, HO'.out, HM.out⟩
set_option maxHeartbeats 2000000 in
theorem outIds (B o : Nat) (l : List UInt8) (X : Option Addr) (cx : Nat) (ns : List Int) (w : World) (h : OutAt B o w l) (hB : B ≤ w.heap.size) (hBo : o < B) (hX : RV w X (ncells .i64 ns)) (hne : 0 < ns.length → ∀ b, X.map (·.block) = some b → b ≠ o)
    (hns : ∀ n ∈ ns, 0 ≤ n ∧ n ≤ 1000000) (hn : ns.length ≤ 1000000) (hl : l.length + 9 * ns.length ≤ 190000000000000) :
    Calls Tryz.prog 163 #[.pointer (some ⟨o, 0, none⟩), .slice X ns.length cx] w (OutE B o (l ++ idsB ns) w) := by
  have hlo := h.lt
  have hal : Below w.heap.size w (w.alloc (.cells #[.int .i64 (ns.length : Int)] 3)) := (Below.refl _ _).alloc (Nat.le_refl _) _
  have P := Lib.hid (outInts B o l (some ⟨w.heap.size, 0, none⟩) 1 [(ns.length : Int)] _ (h.below hal) (by simp; omega) hBo (RV.one w (.int .i64 (ns.length : Int)) 3) (fun _ b hb => by simp at hb; omega) (fun x hx => by rw [List.mem_singleton.1 hx]; omega) (by simp; omega))
  have HX := Lib.hid hX
  have HN := Lib.hid hne
  have HS := Lib.hid hns
  have HAL := Lib.hid hal
  clear h hX hne hns hal
  go_enter Tryz.func163, Tryz.ntmps163
  go_wp2_with (go_at_call 198; refine P.out.mono ?_)
  rintro e w2 ⟨rfl, ho2, hm2⟩
  have hlen := putNums_len [(ns.length : Int)]
  have M2 := Lib.hid ((Mods.of_below (S := (· = o)) HAL.out).then hm2)
  have P2 := Lib.hid (outInts B o _ X cx ns w2 ho2 (Nat.le_trans hB M2.out.size) hBo (rv_mods HX.out M2.out (fun h0 b hb => HN.out (by rw [ncells_length] at h0; exact h0) b hb)) HN.out HS.out (by simp at hlen ⊢; omega))
  clear ho2 hm2 P
  go_wp2_with (go_at_call 198; refine P2.out.mono ?_)
  rintro e w3 ⟨rfl, ho3, hm3⟩
  go_wp2_with fail
  go_end0
  exact ⟨rfl, ho3.cast (by unfold idsB; rw [List.append_assoc]), M2.out.then hm3⟩
set_option maxHeartbeats 2000000 in
theorem outData (B o : Nat) (l : List UInt8) (X : Option Addr) (cx : Nat) (A : Option Addr) (c : Nat) (d : List UInt8) (w : World) (h : OutAt B o w l) (hB : B ≤ w.heap.size) (hBo : o < B) (hX : RBB w X [(A, c, d)]) (hl : l.length + d.length ≤ 190000000000000) :
    Calls Tryz.prog 110 #[.pointer (some ⟨o, 0, none⟩), .slice X 1 cx] w (OutE B o (l ++ putB d) w) := by
  obtain ⟨A0, c0, h1, h2⟩ := h
  have hp := putB_len d
  have e0 : putAll [(A, c, d)] = putB d := by simp [putAll]
  have P := Lib.hid (putBytesB A0 X c0 cx l [(A, c, d)] w h2.rb hX (by simp) (by rw [e0]; omega))
  rw [e0, show [(A, c, d)].length = 1 from rfl] at P
  have k1 := h1.cell 0 rfl
  have k2 := h1.free 0
  have H0 : Hid (OutAt B o w l) := Lib.hid ⟨A0, c0, h1, h2⟩
  clear h1 h2 hX hp e0
  go_enter Tryz.func110, Tryz.ntmps110
  go_wp2_with (go_at_call 166; refine P.out.mono ?_)
  rintro e w2 ⟨b2, A2, c2, hk2, hk21, hk22, rfl, ho2, hb2⟩
  have c0' := (hb2.cell (p := ⟨o, 0, none⟩) (H0.out.lt)).trans k1
  have f0' : w2.frozen? ⟨o, 0, none⟩ = false := by
    obtain ⟨A', c', h1', _⟩ := H0.out.below hb2
    exact h1'.free 0
  obtain ⟨s1, s2⟩ := out_step H0.out hB hBo ho2 hb2
  have S1 := Lib.hid (s1.cast hk2.out)
  have S2 := Lib.hid s2
  clear s1 s2 ho2 hb2 hk2 hk21 hk22 P k1 k2
  go_wp2_with fail
  go_end0
  exact ⟨rfl, S1.out, S2.out⟩
end
end Go.Proofs.YtobdmlejabjmiaaGreatDoor


/- A region that draws its order in which more than one operation that makes memory may be ready, again and again: a tree of plans. -/
namespace Go.Proofs.YtobdmlejabjmiaaGreatDoor
open Go.RowKit

inductive PT where
  | fin (p : List (Nat × Option (List Nat)))
  | pure (i : Nat) (r : PT)
  | eff (i : Nat) (d : List Nat) (r : PT)
  | two (i : Nat) (d : List Nat) (r : PT) (j : Nat) (e : List Nat) (s : PT)
def PT.len : PT → Nat
  | .fin p => p.length
  | .pure _ r => r.len + 1
  | .eff _ _ r => r.len + 1
  | .two _ _ r _ _ s => max r.len s.len + 1
def planP (md : Region.Mode) (ops : Array Oper) : PT → Array Bool → Bool
  | .fin p, l => planC md ops p l
  | .pure i r, l => Region.free md ops l i && (Region.ready md ops l).contains i && planP md ops r (l.setIfInBounds i true)
  | .eff i d r, l => (Region.ready md ops l == [i]) && (d.all (fun k => depB md ops i k) && planP md ops r (l.setIfInBounds i true))
  | .two i d r j e s, l => (Region.ready md ops l == [i, j]) && ((d.all (fun k => depB md ops i k) && planP md ops r (l.setIfInBounds i true)) && (e.all (fun k => depB md ops j k) && planP md ops s (l.setIfInBounds j true)))
section
variable {P : Program} {ops : Array Oper} {Q : Exit → Act → World → Prop} {md : Region.Mode}
def wpPT (P : Program) (ops : Array Oper) (Q : Exit → Act → World → Prop) : Obl → PT → Act → World → Prop
  | obl, .fin p, a, w => wpPlanE P ops Q obl p a w
  | obl, .pure i r, a, w => ∃ o v S, ops[i]? = some o ∧ YieldsIf P ops S o v a ∧ S w ∧ wpPT P ops Q ((i, S) :: obl) r (a.put o.dst v) w
  | obl, .eff i d r, a, w => ∃ o, ops[i]? = some o ∧ wpOp P ops Q i (fun a' w' => owed d obl w' ∧ wpPT P ops Q (left d obl) r a' w') a w
  | obl, .two i d r j e s, a, w => (∃ o, ops[i]? = some o ∧ wpOp P ops Q i (fun a' w' => owed d obl w' ∧ wpPT P ops Q (left d obl) r a' w') a w) ∧
      (∃ o, ops[j]? = some o ∧ wpOp P ops Q j (fun a' w' => owed e obl w' ∧ wpPT P ops Q (left e obl) s a' w') a w)
theorem effP {i : Nat} {d : List Nat} {fuel : Nat} {obl : Obl} {listed : Array Bool} {a : Act} {w : World} {R : Act → World → Prop} (hp : d.all (fun k => depB md ops i k) = true)
    (h : ∃ o, ops[i]? = some o ∧ wpOp P ops Q i (fun a' w' => owed d obl w' ∧ R a' w') a w) (hR : ∀ a' w', (∀ p ∈ left d obl, p.2 w') → R a' w' → wpAnyO P md ops Q fuel (left d obl) (listed.setIfInBounds i true) a' w') :
    wpOp P ops Q i (fun a' w' => (∀ p ∈ obl, depB md ops i p.1 = false → p.2 w') ∧ wpAnyO P md ops Q fuel (obl.filter fun p => !depB md ops i p.1) (listed.setIfInBounds i true) a' w') a w := by
  obtain ⟨o, ho, hw⟩ := h
  have hd : ∀ k, d.contains k = true → depB md ops i k = true := fun k hk => by
    have := List.all_eq_true.1 hp k (by simpa using hk)
    exact this
  have hnd : ∀ k, depB md ops i k = false → d.contains k = false := fun k hk => by
    cases hc : d.contains k with
    | false => rfl
    | true => rw [hd k hc] at hk; cases hk
  refine wpOp_mono (fun a' w' ⟨he, hr⟩ => ⟨fun p hp' hdd => owed_spec he p hp' (hnd _ hdd), ?_⟩) hw
  refine obl_mono fuel (left d obl) _ _ a' w' (fun p hp' => ?_) (hR a' w' (fun p hp' => ?_) hr)
  · rw [List.mem_filter] at hp'
    exact mem_left.2 ⟨hp'.1, hnd _ (by simpa using hp'.2)⟩
  · obtain ⟨h1, h2⟩ := mem_left.1 hp'
    exact owed_spec he p h1 h2
theorem planP_sound (hs : Region.noSelect ops = true) (hQ : ∀ c a w, ¬ Q (.panic c) a w) : ∀ (t : PT) (fuel : Nat) (obl : Obl) (listed : Array Bool) (a : Act) (w : World),
    t.len ≤ fuel → planP md ops t listed = true → (∀ p ∈ obl, p.2 w) → wpPT P ops Q obl t a w → wpAnyO P md ops Q fuel obl listed a w
  | .fin p, fuel, obl, listed, a, w, hf, hp, hO, h => planE_sound hs hQ p fuel obl listed a w hf hp hO h
  | .pure i r, 0, _, _, _, _, hf, _, _, _ => by simp [PT.len] at hf
  | .eff i d r, 0, _, _, _, _, hf, _, _, _ => by simp [PT.len] at hf
  | .two i d r j e s, 0, _, _, _, _, hf, _, _, _ => by simp [PT.len] at hf
  | .pure i r, fuel + 1, obl, listed, a, w, hf, hp, hO, h => by
    obtain ⟨o, v, S, ho, hy, hS, hr⟩ := h
    simp only [planP, Bool.and_eq_true] at hp
    refine wpAnyO_first ho (Region.noSelect_spec hs) (fun c a w hh => absurd hh (hQ _ _ _)) fuel obl listed a w (Region.free_spec ho hp.1.1) (by simpa using hp.1.2) hy hS hO
      (planP_sound hs hQ r fuel _ _ _ w (by simp only [PT.len] at hf; omega) hp.2 ?_ hr)
    intro p hp'
    rcases List.mem_cons.1 hp' with rfl | hp'
    · exact hS
    · exact hO p hp'
  | .eff i d r, fuel + 1, obl, listed, a, w, hf, hp, hO, h => by
    simp only [planP, Bool.and_eq_true, beq_iff_eq] at hp
    refine ⟨fun h0 => (by rw [h0] at hp; simp at hp), fun j hj => ?_⟩
    rw [hp.1, List.mem_singleton] at hj
    subst hj
    exact effP hp.2.1 h fun a' w' h1 h2 => planP_sound hs hQ r fuel _ _ a' w' (by simp only [PT.len] at hf; omega) hp.2.2 h1 h2
  | .two i d r j e s, fuel + 1, obl, listed, a, w, hf, hp, hO, h => by
    simp only [planP, Bool.and_eq_true, beq_iff_eq] at hp
    refine ⟨fun h0 => (by rw [h0] at hp; simp at hp), fun k hk => ?_⟩
    rw [hp.1] at hk
    simp only [List.mem_cons, List.not_mem_nil, or_false] at hk
    rcases hk with rfl | rfl
    · exact effP hp.2.1.1 h.1 fun a' w' h1 h2 => planP_sound hs hQ r fuel _ _ a' w' (by simp only [PT.len] at hf; omega) hp.2.1.2 h1 h2
    · exact effP hp.2.2.1 h.2 fun a' w' h1 h2 => planP_sound hs hQ s fuel _ _ a' w' (by simp only [PT.len] at hf; omega) hp.2.2.2 h1 h2
/-- The beginning. -/
theorem wp_region_planP_gen {id : Nat} {a : Act} {w : World} (hm : P.follows .mixedOrders = true) (t : PT) (hs : Region.noSelect ops = true)
    (hp : planP .any ops t (Array.replicate ops.size false) = true) (hl : t.len ≤ ops.size) (h : ∀ wq, wq = w.drew → wpPT P ops (NoPanic Q) [] t a wq) : (Code.region id ops true).wp P Q a w :=
  wp_region_noPanic (wp_region_any hm (wpAny_of_obl _ _ _ _ _ (planP_sound hs (fun _ _ _ hh => hh) t _ _ _ a _ hl hp (by simp) (h _ rfl))))
theorem pt_pure {obl : Obl} {i : Nat} {r : PT} {a : Act} {w : World} {o : Oper} {v : Value} (ho : ops[i]? = some o) (hw : Region.wanted o (yielded ops a.tmps) = true)
    (hy : ∀ w', (execOp a.eval o).run P w' = .ok (.value v) w') (h : wpPT P ops Q ((i, fun _ => True) :: obl) r (a.put o.dst v) w) : wpPT P ops Q obl (.pure i r) a w :=
  ⟨o, v, fun _ => True, ho, .inl ⟨hw, fun w' _ => hy w'⟩, trivial, h⟩
theorem pt_cells {obl : Obl} {i : Nat} {r : PT} {a : Act} {w : World} {o : Oper} {v : Value} (l : List (Addr × Value)) (hc : ∀ p ∈ l, w.cell? p.1 = some p.2) (ho : ops[i]? = some o) (hw : Region.wanted o (yielded ops a.tmps) = true)
    (hy : ∀ w', (∀ p ∈ l, w'.cell? p.1 = some p.2) → (execOp a.eval o).run P w' = .ok (.value v) w') (h : wpPT P ops Q ((i, fun w' => ∀ p ∈ l, w'.cell? p.1 = some p.2) :: obl) r (a.put o.dst v) w) : wpPT P ops Q obl (.pure i r) a w :=
  ⟨o, v, _, ho, .inl ⟨hw, hy⟩, hc, h⟩
theorem pt_eff {obl : Obl} {i : Nat} {d : List Nat} {r : PT} {a : Act} {w : World} {o : Oper} (ho : ops[i]? = some o) (hw : Region.wanted o (yielded ops a.tmps) = true)
    (h : ∀ K : Act → World → Prop, (∀ a' w', owed d obl w' → wpPT P ops Q (left d obl) r a' w' → K a' w') → o.wp P a w K Q) : wpPT P ops Q obl (.eff i d r) a w := by
  refine ⟨o, ho, ?_⟩
  unfold wpOp
  rw [ho]
  simp only [hw, if_true]
  exact .inl (h _ fun a' w' h1 h2 => ⟨h1, h2⟩)
theorem pt_two {obl : Obl} {i j : Nat} {d e : List Nat} {r s : PT} {a : Act} {w : World} (h1 : wpPT P ops Q obl (.eff i d r) a w) (h2 : wpPT P ops Q obl (.eff j e s) a w) : wpPT P ops Q obl (.two i d r j e s) a w := ⟨h1, h2⟩
theorem pt_fin {obl : Obl} {p : List (Nat × Option (List Nat))} {a : Act} {w : World} (h : wpPlanE P ops Q obl p a w) : wpPT P ops Q obl (.fin p) a w := h
end
end Go.Proofs.YtobdmlejabjmiaaGreatDoor


/- Contracts: rows of whole numbers: slices.Clone, append of a row to an empty one; the reference's Has, rising, SameInts. -/
namespace Go.Proofs.YtobdmlejabjmiaaGreatDoor
open Go.RowKit
theorem bdN {B : Nat} {w w' : World} (h : Below B w w') (n : Nat) : Below B w (w'.drewN n) := ⟨h.os, h.tape, h.output, h.size, h.block⟩
theorem ncells_one (k : IntKind) (l : List Int) : ∀ v ∈ ncells k l, v.oneCell' = true := by
  intro v hv
  obtain ⟨z, _, rfl⟩ := List.mem_map.1 hv
  rfl
/-- 'append(s, x...)' onto an empty row that has no room: new cells; nothing that was there turns. -/
theorem op_appendZ {P : Program} (w : World) {o : Oper} {a : Act} {K : Act → World → Prop} {Q : Exit → Act → World → Prop} (s x : Operand) (t e : TypeId) {i : TypeInfo} {z : Value} {bytes : Nat}
    (ho : o.op = .call { callee := .builtin .append, args := #[s, x], argTypes := #[t, t] })
    (ht : P.underlying t = some (.slice e)) (hi : P.info? e = some i) (hz0 : i.zero = some z) (hz1 : i.size = 1) (hz2 : i.bytes = bytes) (hzs : z.cells.size = 1)
    (base : Nat) (A X : Option Addr) (d : Nat) (zs : List Value) (hs : a.eval s = .slice A 0 0) (hx : a.eval x = .slice X zs.length d) (hA : OV w base e A 0 [])
    (hv : RV w X zs) (h1 : ∀ v ∈ zs, v.oneCell' = true) (hlen : zs.length * bytes ≤ 140737488355328) (hl2 : zs.length ≤ 140737488355328) (hbase : base ≤ w.heap.size)
    (h : ∀ (A' : Option Addr) (c' : Nat) (w' : World), OV w' base e A' c' zs → Below w.heap.size w w' → K (a.put o.dst (.slice A' zs.length c')) w') : o.wp P a w K Q := by
  rcases Nat.eq_zero_or_pos zs.length with h0 | h0
  · have hm0 : zs = [] := List.eq_nil_of_length_eq_zero h0
    subst hm0
    have hrun : (Builtin.append_ #[t, t] o.type #[.slice A 0 0, .slice X 0 d]).run P w = .ok (.slice A 0 0) w := by
      rcases hA.form with ⟨rfl, _, _⟩ | ⟨g, rfl, _, _, _, _⟩
      · rcases X with _ | X
        · simp [Builtin.append_, run_underlying ht, sizeOf, typeInfo, hi, Builtin.lenOf, Builtin.firstCells]
        · have hf := run_firstCells_some (P := P) w i.size 0 X 0 d [] (by simp) (by simp)
          simp [Builtin.append_, run_underlying ht, sizeOf, typeInfo, hi, Builtin.lenOf, hf]
      · rcases X with _ | X
        · simp [Builtin.append_, run_underlying ht, sizeOf, typeInfo, hi, Builtin.lenOf, Builtin.firstCells, storeCells]
        · have hf := run_firstCells_some (P := P) w i.size 0 X 0 d [] (by simp) (by simp)
          simp [Builtin.append_, run_underlying ht, sizeOf, typeInfo, hi, Builtin.lenOf, hf, storeCells]
    unfold Oper.wp
    simp only [List.length_nil] at hx
    simp only [execOp, ho, resolve, invoke, builtin, Sem.run_bind, Sem.run_pure, Result.andThen_ok, List.map_toArray, List.map_cons, List.map_nil, hs, hx, hrun]
    exact h A 0 w hA (Below.refl _ _)
  · obtain ⟨b, off, rfl, _, hcm⟩ := hv.at_ h0
    have addr : ∀ j u, zs[j]? = some u → w.cell? ((⟨b, off, none⟩ : Addr).add j) = some u := by
      intro j u hu
      have hadd : (⟨b, off, none⟩ : Addr).add j = ⟨b, off + j, none⟩ := by unfold Addr.add; split <;> simp_all
      rw [hadd]
      exact hcm j u hu
    have fin : ∀ cap, zs.length ≤ cap → cap ≤ maxLen → ∃ (w' : World), w' = (w.drew.alloc (.cells (#[] ++ zs.toArray ++ Builtin.zeroCells z.cells (cap - zs.length)) e)) ∧
        OV w' base e (some ⟨w.heap.size, 0, none⟩) cap zs ∧ Below w.heap.size w w' := by
      intro cap c1 c2
      refine ⟨_, rfl, ?_, (Below.refl _ _).drew.alloc (Nat.le_refl _) _⟩
      refine ⟨by simp, .inr ⟨w.heap.size, cap, _, rfl, hbase, heap_alloc_new w.drew _, c1, c2, ?_, ?_⟩⟩
      · simp [size_zeroCells, hzs]; omega
      · simp
    obtain ⟨cap, w', hrun, hob, hb⟩ : ∃ cap w', (Builtin.append_ #[t, t] o.type #[.slice A 0 0, .slice (some ⟨b, off, none⟩) zs.length d]).run P w = .ok (.slice (some ⟨w.heap.size, 0, none⟩) zs.length cap) w' ∧
        OV w' base e (some ⟨w.heap.size, 0, none⟩) cap zs ∧ Below w.heap.size w w' := by
      rcases A with _ | ad
      · have hr := run_append_nil (P := P) w t o.type e i z ht hi hz0 ⟨b, off, none⟩ zs.length d zs (by rw [hz1]; omega) addr h0 (by omega) (by rw [hz2]; omega)
        obtain ⟨w', e1, ho1, hb1⟩ := fin (grownCap w zs.length 0 e) (by simpa using grownCap_ge w _ _ _) (grownCap_le_maxLen w _ _ _ (by unfold maxLen; omega))
        refine ⟨_, w', ?_, ho1, hb1⟩
        rw [e1]
        simpa using hr
      · have hr := run_append_grow (P := P) w t o.type e i z ht hi hz0 ad 0 0 [] (by simp) (by simp) ⟨b, off, none⟩ zs.length d zs (by rw [hz1]; omega) addr (by omega) (by omega) (growslice_fits (by omega) (by rw [hz2]; simpa using hlen))
        obtain ⟨w', e1, ho1, hb1⟩ := fin (grownCap w (0 + zs.length) 0 e) (by have := grownCap_ge w (0 + zs.length) 0 e; omega) (grownCap_le_maxLen w _ _ _ (by unfold maxLen; omega))
        refine ⟨_, w', ?_, ho1, hb1⟩
        rw [e1, hr]
        simp
    unfold Oper.wp
    simp only [execOp, ho, resolve, invoke, builtin, Sem.run_bind, Sem.run_pure, Result.andThen_ok, List.map_toArray, List.map_cons, List.map_nil, hs, hx, hrun]
    exact h _ _ w' hob hb
/-- What a function that answers new numbers ends in. -/
def NewI (w : World) (l : List Int) (e : Ending) (w' : World) : Prop :=
  ∃ (A : Option Addr) (c : Nat), e = .returned (.slice A l.length c) ∧ OV w' w.heap.size 3 A c (ncells .i64 l) ∧ Below w.heap.size w w'
set_option maxRecDepth 20000 in
set_option maxHeartbeats 2000000 in
theorem cloneI (A : Option Addr) (c : Nat) (l : List Int) (w : World) (h : RV w A (ncells .i64 l)) (hl : l.length ≤ 1000000000000) :
    Calls Tryz.prog 83 #[.slice A l.length c] w (NewI w l) := by
  have hnil := fun w => Lib.run_eql_slice_nil (P := Tryz.prog) w 31 3 A l.length c 0 0 Tryz.underlying31
  have hln := ncells_length .i64 l
  rcases A with _ | ad
  · have hl0 : l = [] := by
      rcases Nat.eq_zero_or_pos l.length with h0 | h0
      · exact List.eq_nil_of_length_eq_zero h0
      · obtain ⟨b, off, e, _⟩ := h.at_ (by omega); cases e
    have HL := Lib.hid hl0
    clear h hl hl0 hln
    go_enter Tryz.func83, Tryz.ntmps83
    go_wp2_with fail
    go_ret
    exact ⟨none, 0, by rw [HL.out]; rfl, by rw [HL.out]; exact OV.nil _ _ _, Below.refl _ _⟩
  · obtain ⟨i0, hi0, hz0, hz1, hz2⟩ := info_parts int_info
    have HK : Hid (∀ A' c' w', OV w' w.heap.size 3 A' c' (ncells .i64 l) → Below (w.heap.size + 1) (w.alloc (.cells #[] 3)) w' → NewI w l (.returned (.slice A' (ncells .i64 l).length c')) w') := Lib.hid fun A' c' w' h1 h2 => ⟨A', c', by rw [hln], h1, (Below.alloc (Below.refl _ _) (Nat.le_refl _) _).trans (h2.mono (Nat.le_succ _))⟩
    rw [← hln] at hnil ⊢
    clear hln
    go_enter Tryz.func83, Tryz.ntmps83
    go_wp2_with (at_builtin; refine wpList_plain rfl (fun K hK => op_appendZ _ _ _ 31 3 rfl Tryz.underlying31 hi0 hz0 hz1 hz2 rfl w.heap.size _ _ _ (ncells .i64 l) rfl rfl (OV.made0 _ _ (Nat.le_refl _)) (h.below ((Below.refl _ _).alloc (Nat.le_refl _) _)) (ncells_one _ _) (by rw [ncells_length]; omega) (by rw [ncells_length]; omega) (by simp) ?_); intro A' c' w' h1 h2; refine hK _ _ ?_; have H1 := Lib.hid h1; have H2 := Lib.hid h2; clear h1 h2 hK)
    go_ret
    exact HK.out _ _ _ H1.out (by have := H2.out; simpa using this)
set_option maxHeartbeats 2000000 in
theorem refHas (A : Option Addr) (c : Nat) (l : List Int) (n : Int) (w : World) (h : RV w A (ncells .i64 l)) (hl : l.length ≤ 9223372036854775807) :
    Calls Tryz.prog 101 #[.slice A l.length c, .int .i64 n] w fun e w' => e = .returned (.bool (l.contains n)) ∧ w = w' := by
  have HR := Lib.hid h
  clear h
  obtain ⟨r, hr⟩ : ∃ r, r = l.contains n := ⟨_, rfl⟩
  have HRR := Lib.hid hr
  rw [← hr]
  clear hr
  go_enter Tryz.func101, Tryz.ntmps101
  go_wp2_with fail
  go_loop [5] (fun i => ∃ k : Nat, k ≤ l.length ∧ i = .int .i64 (k : Int) ∧ Hid ((l.take k).contains n = false))
    (fun i => l.length - (intOf i).toNat)
  case atStart => exact ⟨0, Nat.zero_le _, rfl, Lib.hid (by simp)⟩
  case round =>
    obtain ⟨k, hk, rfl, HK⟩ := hrel
    by_cases hlt : k < l.length
    · obtain ⟨b, off, rfl, hb, hc⟩ := HR.out.int hlt
      by_cases hx : l[k] = n
      · have HF : Hid (l.contains n = true) := Lib.hid (by rw [List.contains_iff_mem, ← hx]; exact List.getElem_mem hlt)
        have hxb : (l[k] == n) = true := by simpa using hx
        obtain ⟨x, hxe⟩ : ∃ x, x = l[k] := ⟨_, rfl⟩
        rw [← hxe] at hc hxb
        clear hx hxe HK
        go_wp2_with fail
        go_ret
        exact ⟨by rw [HRR.out, HF.out]; rfl, rfl⟩
      · have HT : Hid ((l.take (k + 1)).contains n = false) := Lib.hid (by
          have h1 := HK.out
          rw [List.take_succ_eq_append_getElem hlt]
          rw [← Bool.not_eq_true] at h1 ⊢
          rw [List.contains_iff_mem] at h1 ⊢
          rw [List.mem_append, List.mem_singleton]
          exact fun e => e.elim h1 (fun e => hx e.symm))
        have hxb : (l[k] == n) = false := by simpa using hx
        obtain ⟨x, hxe⟩ : ∃ x, x = l[k] := ⟨_, rfl⟩
        rw [← hxe] at hc hxb
        clear hx hxe HK
        go_wp2_with fail
        go_round
        case rel => exact ⟨k + 1, by omega, by go_num, HT⟩
        case measure => simp [intOf]; omega
    · have HF : Hid (l.contains n = false) := Lib.hid (by have := HK.out; rwa [List.take_of_length_le (by omega)] at this)
      clear HK
      go_wp2_with fail
      go_ret
      exact ⟨by rw [HRR.out, HF.out]; rfl, rfl⟩
set_option maxHeartbeats 4000000 in
theorem refRising (A : Option Addr) (c : Nat) (l : List Int) (w : World) (h : RV w A (ncells .i64 l)) (hl : l.length ≤ 9223372036854775807) :
    Calls Tryz.prog 102 #[.slice A l.length c] w fun e w' => e = .returned (.bool (risesB l)) ∧ Below w.heap.size w w' := by
  have HR := Lib.hid h
  clear h
  go_enter Tryz.func102, Tryz.ntmps102
  go_wp2_with fail
  go_loopw [3] (fun i wr => ∃ k : Nat, k ≤ l.length ∧ i = .int .i64 (k : Int) ∧ Hid (∀ j, j < k → riseAt l j = true) ∧ Hid (Below w.heap.size w wr))
    (fun i _ => l.length - (intOf i).toNat)
  case atStart => exact ⟨0, Nat.zero_le _, rfl, Lib.hid (fun j hj => absurd hj (Nat.not_lt_zero _)), Lib.hid (Below.refl _ _)⟩
  case round =>
    obtain ⟨k, hk, rfl, HK, HB⟩ := hrel
    by_cases hlt : k < l.length
    · obtain ⟨b, off, rfl, hb, hc⟩ := (HR.out.below HB.out).int hlt
      have HX := Lib.hid (getD_at hlt)
      obtain ⟨x, hx⟩ : ∃ x, x = l[k] := ⟨_, rfl⟩
      rw [← hx] at hc HX
      clear hx
      have hkz : (k : Int) < (l.length : Int) := by omega
      by_cases h1 : x < 1
      · have HF : Hid (risesB l = false) := Lib.hid (risesB_no hlt (by unfold riseAt; rw [HX.out]; simp; omega))
        have g1 : decide (x < 1) = true := by simpa using h1
        clear HK HX
        go_wp2_with fail
        go_quiet (fail)
        go_wp2_with fail
        go_ret
        exact ⟨by rw [HF.out]; rfl, bdN HB.out _⟩
      · have g1 : decide (x < 1) = false := by simpa using h1
        by_cases h2 : 16 < x
        · have HF : Hid (risesB l = false) := Lib.hid (risesB_no hlt (by unfold riseAt; rw [HX.out]; simp; omega))
          have g2 : decide (16 < x) = true := by simpa using h2
          clear HK HX
          go_wp2_with fail
          go_quiet (fail)
          go_wp2_with fail
          go_ret
          exact ⟨by rw [HF.out]; rfl, bdN HB.out _⟩
        · have g2 : decide (16 < x) = false := by simpa using h2
          by_cases h0 : k = 0
          · subst h0
            rw [Nat.add_zero] at hc
            have HT : Hid (∀ j, j < 0 + 1 → riseAt l j = true) := Lib.hid (fun j hj => by
              obtain rfl : j = 0 := by omega
              unfold riseAt; rw [HX.out]; simp; omega)
            clear HK HX
            go_wp2_with fail
            go_quiet (fail)
            go_wp2_with fail
            go_roundw
            case rel => exact ⟨0 + 1, by omega, by go_num, HT, Lib.hid (bdN HB.out _)⟩
            case measure => simp [intOf]; omega
          · obtain ⟨b', off', e', hb', hc'⟩ := (HR.out.below HB.out).int (j := k - 1) (by omega)
            injection e' with e'
            injection e' with e1 e2
            subst e1 e2
            have HY := Lib.hid (getD_at (l := l) (k := k - 1) (by omega))
            obtain ⟨y, hy⟩ : ∃ y, y = l[k - 1] := ⟨_, rfl⟩
            rw [← hy] at hc' HY
            clear hy
            have hkq : (((k - 1 : Nat)) : Int) < (l.length : Int) := by omega
            have hkq' : k - 1 < l.length := by omega
            have hwk : IntKind.i64.wrap (((k - 1 : Nat)) : Int) = (((k - 1 : Nat)) : Int) := by
              unfold IntKind.wrap
              simp [IntKind.bits, IntKind.signed]
              omega
            have g0 : decide ((0 : Int) < (k : Int)) = true := by simpa using (by omega : 0 < k)
            have g0' : decide (0 < k) = true := by simpa using (by omega : 0 < k)
            by_cases h3 : x ≤ y
            · have HF : Hid (risesB l = false) := Lib.hid (risesB_no hlt (by unfold riseAt; rw [HX.out, HY.out]; simp; omega))
              have g3 : decide (x ≤ y) = true := by simpa using h3
              clear HK HX HY
              go_wp2_with fail
              go_quiet (fail)
              go_wp2_with fail
              go_ret
              exact ⟨by rw [HF.out]; rfl, bdN HB.out _⟩
            · have HT : Hid (∀ j, j < k + 1 → riseAt l j = true) := Lib.hid (fun j hj => by
                rcases Nat.lt_or_ge j k with h | h
                · exact HK.out j h
                · obtain rfl : j = k := by omega
                  unfold riseAt; rw [HX.out, HY.out]; simp; omega)
              have g3 : decide (x ≤ y) = false := by simpa using h3
              clear HK HX HY
              go_wp2_with fail
              go_quiet (fail)
              go_wp2_with fail
              go_roundw
              case rel => exact ⟨k + 1, by omega, by go_num, HT, Lib.hid (bdN HB.out _)⟩
              case measure => simp [intOf]; omega
    · have HF : Hid (risesB l = true) := Lib.hid (risesB_yes fun j hj => HK.out j (by omega))
      go_wp2_with fail
      go_ret
      exact ⟨by rw [HF.out]; rfl, HB.out⟩
end Go.Proofs.YtobdmlejabjmiaaGreatDoor

