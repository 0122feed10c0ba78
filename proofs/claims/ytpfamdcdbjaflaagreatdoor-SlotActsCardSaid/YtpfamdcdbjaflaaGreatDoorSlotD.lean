/- Contracts of package slot: the one that is struck from a row of names (slices.DeleteFunc with Open's closure). -/
import Derived.Test.YtpfamdcdbjaflaaGreatDoorSlotC
namespace Go.Proofs.YtpfamdcdbjaflaaGreatDoor
open Go.RowKit

/-- What the closure has caught, and what its call needs. -/
structure CA (B p c6 c7 : Nat) (b : Nm) (n : Nat) (w : World) : Prop where
  six : Blk w c6 26 #[.pointer (some ⟨p, 0, none⟩)]
  seven : Blk w c7 42 #[.int .u64 (n : Int)]
  slot : ∃ cs, Blk w p TS cs ∧ cs[1]? = some (.string ⟨b.toArray⟩)
  env : SEnv B w
  lo : B ≤ w.heap.size
  bl : b.length ≤ 8
  nn : n < 18446744073709551616
theorem CA.below {B p c6 c7 : Nat} {b : Nm} {n : Nat} {w w' : World} (h : CA B p c6 c7 b n w) (hb : Below w.heap.size w w') : CA B p c6 c7 b n w' := by
  obtain ⟨h1, h2, ⟨cs, h3, h4⟩, h5, h6, h7, h8⟩ := h
  exact ⟨h1.kept hb, h2.kept hb, ⟨cs, h3.kept hb, h4⟩, h5.below (hb.mono h6), Nat.le_trans h6 hb.size, h7, h8⟩
theorem CA.mods {B p c6 c7 k : Nat} {b : Nm} {n : Nat} {w w' : World} (h : CA B p c6 c7 b n w) (m : Mods (· = k) w w') (hk : B ≤ k) (h1 : c6 ≠ k) (h2 : c7 ≠ k) (h3 : p ≠ k) : CA B p c6 c7 b n w' := by
  obtain ⟨q1, q2, ⟨cs, q3, q4⟩, q5, q6, q7, q8⟩ := h
  exact ⟨q1.mods m h1, q2.mods m h2, ⟨cs, q3.mods m h3, q4⟩, q5.below (Mods.old (Below.refl _ _) m q6 (fun i _ e => by subst e; exact hk)), Nat.le_trans q6 m.size, q7, q8⟩
section
variable {B p c6 c7 n : Nat} {b : Nm} {w w' : World}
set_option maxRecDepth 20000 in
set_option maxHeartbeats 2000000 in
theorem slotPick (h : CA B p c6 c7 b n w) (f : List UInt8) (r : Bool) (hr : (f == fileN b n) = r) :
    Calls Tryz.prog 25 #[.string ⟨f.toArray⟩, .pointer (some ⟨c6, 0, none⟩), .pointer (some ⟨c7, 0, none⟩)] w fun e w' => e = .returned (.bool r) ∧ Below w.heap.size w w' := by
  obtain ⟨h1, h2, ⟨cs, h3, h4⟩, h5, h6, h7, h8⟩ := h
  have e6 : w.cell? ⟨c6, 0, none⟩ = some (.pointer (some ⟨p, 0, none⟩)) := h1.cell 0 rfl
  have e7 : w.cell? ⟨c7, 0, none⟩ = some (.int .u64 (n : Int)) := h2.cell 0 rfl
  have FI := Lib.hid (slotFile h3 h4 h7 n h8 h5 h6)
  generalize fileN b n = y at *
  clear h1 h2 h3 h4 h5 h6
  go_enter Tryz.func25, Tryz.ntmps25
  go_wp2_with (go_at_call 26; refine FI.out.mono ?_)
  rintro e w1 ⟨rfl, b1⟩
  have HB := Lib.hid b1
  clear b1 FI
  go_wp2_with fail
  go_ret
  exact ⟨rfl, HB.out⟩

abbrev pickV (c6 c7 : Nat) : Value := .func (.func 25) #[] #[.pointer (some ⟨c6, 0, none⟩), .pointer (some ⟨c7, 0, none⟩)]
set_option maxRecDepth 20000 in
set_option maxHeartbeats 2000000 in
theorem slotIndex (h : CA B p c6 c7 b n w) (l1 l2 : List Nm) (O : Option Addr) (co m : Nat) (hm : m = (l1 ++ fileN b n :: l2).length) (hl : RV w O ((l1 ++ fileN b n :: l2).map encStr)) (h1 : fileN b n ∉ l1) (hn : m ≤ 1000000) :
    Calls Tryz.prog 54 #[.slice O m co, pickV c6 c7] w fun e w' => e = .returned (.int .i64 (l1.length : Int)) ∧ Below w.heap.size w w' := by
  have HC := Lib.hid h
  have HL := Lib.hid hl
  have HNI := Lib.hid h1
  have HM := Lib.hid hm
  have hm1 : l1.length < m := by rw [hm]; simp
  clear h hl h1 hm
  go_enter Tryz.func54, Tryz.ntmps54
  go_wp2_with fail
  go_loopw [8] (fun i wr => ∃ k : Nat, k ≤ l1.length ∧ i = .int .i64 (k : Int) ∧ Hid (Below w.heap.size w wr)) (fun i _ => l1.length - (intOf i).toNat)
  case atStart => exact ⟨0, Nat.zero_le _, rfl, Lib.hid (Below.refl _ _)⟩
  case round =>
    obtain ⟨k, hk, rfl, HW⟩ := hrel
    have hki : (k : Int) < (m : Int) := by omega
    have hki0 : (0 : Int) ≤ (k : Int) := by omega
    have hkm : k < (l1 ++ fileN b n :: l2).length := by rw [← HM.out]; omega
    have hc0 := (HL.out.below HW.out).cell (j := k) (by rw [List.length_map]; exact hkm)
    obtain ⟨ob, off, rfl, hbl, hc⟩ := hc0
    rw [show ((l1 ++ fileN b n :: l2).map encStr)[k]'(by rw [List.length_map]; exact hkm) = .string ⟨((l1 ++ fileN b n :: l2)[k]).toArray⟩ from by rw [List.getElem_map]] at hc
    have HCW := Lib.hid (HC.out.below HW.out)
    by_cases hlt : k < l1.length
    · have hne : ((l1 ++ fileN b n :: l2)[k] == fileN b n) = false := by
        rw [List.getElem_append_left hlt]
        exact beq_eq_false_iff_ne.2 (fun e => HNI.out (by rw [← e]; exact List.getElem_mem hlt))
      have PK := Lib.hid (slotPick HCW.out _ _ hne)
      generalize (l1 ++ fileN b n :: l2)[k] = f at *
      clear HCW hne
      go_wp2_with fail
      refine PK.out.mono ?_
      rintro e w1 ⟨rfl, b1⟩
      have HW1 := Lib.hid (HW.out.trans (b1.mono HW.out.size))
      clear b1 PK
      go_wp2_with fail
      go_roundw
      case rel => exact ⟨k + 1, by omega, by go_num, HW1⟩
      case measure => simp [intOf]; omega
    · obtain rfl : k = l1.length := by omega
      have he : ((l1 ++ fileN b n :: l2)[l1.length] == fileN b n) = true := by
        rw [List.getElem_append_right (Nat.le_refl _)]
        simp
      have PK := Lib.hid (slotPick HCW.out _ _ he)
      generalize (l1 ++ fileN b n :: l2)[l1.length] = f at *
      clear HCW he
      go_wp2_with fail
      refine PK.out.mono ?_
      rintro e w1 ⟨rfl, b1⟩
      have HW1 := Lib.hid (HW.out.trans (b1.mono HW.out.size))
      clear b1 PK
      go_wp2_with fail
      go_ret
      exact ⟨rfl, HW1.out⟩
end
/-- 'clear' of one struct. -/
theorem run_clear1 {P : Program} (w : World) (t e ty : TypeId) {z : Value} {k : Nat} (ht : P.underlying t = some (.slice e)) (hz : ∀ w, (zeroValue e).run P w = .ok z w) (hzs : z.cells.size = k) (k0 : 0 < k) (hz1 : ∀ v ∈ z.cells.toList, v.oneCell' = true)
    (b off c : Nat) (cur : Array Value) (hg : w.heap[b]? = some (.cells cur e (0, 0))) (hfit : off + k ≤ cur.size) :
    ∃ zs : List Value, zs.length = k ∧ (Builtin.clear_ #[t] ty #[.slice (some ⟨b, off, none⟩) 1 c]).run P w = .ok (.tuple #[]) (w.setRow b (cur.toList.take off ++ zs ++ cur.toList.drop (off + zs.length)).toArray) := by
  have hzl : (Builtin.zeroCells z.cells 1).toList.length = k := by simp [Builtin.zeroCells, hzs]
  have hst := run_storeCells_at P b off e (Builtin.zeroCells z.cells 1).toList 0 cur w hg (by rw [hzl]; omega) (fun v hv => by
    simp only [Builtin.zeroCells, Array.toList_map, List.mem_map, Array.toList_range, List.mem_range] at hv
    obtain ⟨i, hi, rfl⟩ := hv
    refine hz1 _ ?_
    have hlt : i % z.cells.size < z.cells.size := Nat.mod_lt _ (by omega)
    rw [getElem!_pos z.cells _ hlt]
    exact Array.getElem_mem_toList hlt)
  simp only [Nat.add_zero] at hst
  refine ⟨_, hzl, ?_⟩
  simp [Builtin.clear_, run_underlying ht, hz, hst]
theorem OV.store {w : World} {base c k : Nat} {e : TypeId} {g : Nat} {xs : List Value} (h : OV w base e (some ⟨g, 0, none⟩) c xs) (hk : k < xs.length) (v : Value) :
    w.cell? ⟨g, k, none⟩ = some xs[k] ∧ w.frozen? ⟨g, k, none⟩ = false ∧ OV (w.setCell ⟨g, k, none⟩ v) base e (some ⟨g, 0, none⟩) c (xs.set k v) := by
  refine ⟨?_, World.ownsRow.frozenAt h k, ?_⟩
  · have := World.ownsRow.cellAt h k (by omega)
    rw [this, List.getElem?_eq_getElem hk]
  · have := (World.ownsRow.stored h k v).1
    unfold OV
    rw [List.length_set]
    exact this
theorem OV.cur {w : World} {base c g : Nat} {e : TypeId} {xs : List Value} (h : OV w base e (some ⟨g, 0, none⟩) c xs) : ∃ cur, w.heap[g]? = some (.cells cur e (0, 0)) ∧ base ≤ g ∧ xs.length ≤ c ∧ c ≤ maxLen ∧ cur.size = c ∧ cur.toList.take xs.length = xs := by
  rcases h.2 with ⟨hv, _⟩ | ⟨g', cap, cur, hv, hb, hg, hc, hm, hs, ht⟩
  · injection hv with h1; cases h1
  · injection hv with h1 _ h3
    injection h1 with h1
    injection h1 with h1
    subst h1 h3
    exact ⟨cur, hg, hb, hc, hm, by omega, by simpa using ht⟩
/-- The row's end cut off, and something else put behind. -/
theorem OV.cutAt {w : World} {base c g : Nat} {e : TypeId} {xs : List Value} (h : OV w base e (some ⟨g, 0, none⟩) c xs) {cur : Array Value} (hg : w.heap[g]? = some (.cells cur e (0, 0))) (n : Nat) (hn : n ≤ xs.length) (zs : List Value) (hz : n + zs.length ≤ cur.size) :
    OV (w.setRow g (cur.toList.take n ++ zs ++ cur.toList.drop (n + zs.length)).toArray) base e (some ⟨g, 0, none⟩) c (xs.take n) := by
  obtain ⟨cur', hg', hb, hc, hm, hs, ht⟩ := h.cur
  rw [hg] at hg'
  injection hg' with hg'
  injection hg' with hg'
  subst hg'
  refine ⟨by simp, .inr ⟨g, c, _, rfl, hb, setRow_heap w g cur _ e _ hg, ?_, hm, ?_, ?_⟩⟩
  · rw [List.length_take]; omega
  · simp only [List.size_toArray, List.length_append, List.length_take, List.length_drop, Array.length_toList]
    omega
  · rw [List.length_take, Nat.min_eq_left hn, Nat.mul_one]
    simp only
    rw [List.append_assoc, List.take_append_of_le_length (by simp; omega), List.take_take, Nat.min_self]
    rw [← ht, List.take_take, Nat.min_eq_left hn]
theorem str_zero (w : World) : (zeroValue 9).run Tryz.prog w = .ok (.string ⟨#[]⟩) w := by kernel_rfl
/-- Where the strike's loop stands. -/
structure DelAt (B p c6 c7 g co : Nat) (b : Nm) (n : Nat) (w : World) (l1 l2 : List Nm) (t : Nat) (wr : World) : Prop where
  row : OV wr B 9 (some ⟨g, 0, none⟩) co ((l1 ++ l2.take t ++ (fileN b n :: l2).drop t).map encStr)
  ca : CA B p c6 c7 b n wr
  mods : Mods (· = g) w wr
section
variable {B p c6 c7 n : Nat} {b : Nm} {w w' : World}
set_option maxRecDepth 20000 in
set_option maxHeartbeats 4000000 in
theorem slotStrike (h : CA B p c6 c7 b n w) (l1 l2 : List Nm) (g co m : Nat) (hm : m = l1.length + 1 + l2.length) (ho : OV w B 9 (some ⟨g, 0, none⟩) co ((l1 ++ fileN b n :: l2).map encStr)) (h1 : fileN b n ∉ l1) (h2 : fileN b n ∉ l2) (hn : m ≤ 1000000) :
    Calls Tryz.prog 24 #[.slice (some ⟨g, 0, none⟩) m co, pickV c6 c7] w fun e w' => e = .returned (.slice (some ⟨g, 0, none⟩) (l1.length + l2.length) co) ∧ OV w' B 9 (some ⟨g, 0, none⟩) co ((l1 ++ l2).map encStr) ∧ Mods (· = g) w w' := by
  have IX := Lib.hid (slotIndex h l1 l2 (some ⟨g, 0, none⟩) co m (by rw [hm]; simp; omega) ho.rv h1 hn)
  have hcap := ho.cap
  rw [List.length_map] at hcap
  have hgB := (ho.blk_lt g rfl).1
  have n6 : c6 ≠ g := fun e => ho.ne_blk h.six (by decide) (by rw [e]; rfl)
  have n7 : c7 ≠ g := fun e => ho.ne_blk h.seven (by decide) (by rw [e]; rfl)
  have np : p ≠ g := fun e => by obtain ⟨cs, hp, _⟩ := h.slot; exact ho.ne_blk hp (by decide) (by rw [e]; rfl)
  have HC := Lib.hid h
  have HO := Lib.hid ho
  have H2 := Lib.hid h2
  have hco : m ≤ co ∧ co ≤ 9223372036854775807 := by
    have := hcap.1; simp only [List.length_append, List.length_cons] at this; omega
  obtain ⟨hco1, hco2⟩ := hco
  have hne1 : (((l1.length : Nat) : Int) == -1) = false := by rw [beq_eq_false_iff_ne]; omega
  have hm1 : m ≤ l1.length + 1 + l2.length := by omega
  have hm2 : l1.length + 1 + l2.length ≤ m := by omega
  clear h ho h1 h2 hcap hm
  go_enter Tryz.func24, Tryz.ntmps24
  go_wp2_with (go_at_call 54; refine IX.out.mono ?_)
  rintro e w1 ⟨rfl, b1⟩
  have HA : Hid (DelAt B p c6 c7 g co b n w l1 l2 0 w1) := Lib.hid ⟨by simpa using HO.out.below b1, HC.out.below b1, Mods.of_below b1⟩
  clear b1 IX HC HO
  go_wp2_with fail
  go_loopw [5, 6] (fun s5 s6 wr => ∃ t : Nat, t ≤ l2.length ∧ s5 = .int .i64 ((l1.length + t : Nat) : Int) ∧ s6 = .int .i64 ((l1.length + 1 + t : Nat) : Int) ∧ Hid (DelAt B p c6 c7 g co b n w l1 l2 t wr)) (fun _ s6 _ => m - (intOf s6).toNat)
  case atStart => exact ⟨0, Nat.zero_le _, by go_num, by go_num, HA⟩
  case round =>
    obtain ⟨t, ht, rfl, rfl, HD⟩ := hrel
    by_cases hlt : t < l2.length
    · obtain ⟨P, hP⟩ : ∃ P, P = l1 ++ l2.take t := ⟨_, rfl⟩
      have hPl : P.length = l1.length + t := by rw [hP, List.length_append, List.length_take]; omega
      obtain ⟨y, hy⟩ : ∃ y, y = (fileN b n :: l2)[t]'(by simp; omega) := ⟨_, rfl⟩
      have hrow : l1 ++ l2.take t ++ (fileN b n :: l2).drop t = P ++ y :: l2[t] :: l2.drop (t + 1) := by
        rw [hP, hy, List.drop_eq_getElem_cons (by simp; omega), List.drop_succ_cons, List.drop_eq_getElem_cons hlt]
      have hrow2 : l1 ++ l2.take (t + 1) ++ (fileN b n :: l2).drop (t + 1) = P ++ l2[t] :: l2[t] :: l2.drop (t + 1) := by
        have e1 : l2.take (t + 1) = l2.take t ++ [l2[t]] := List.take_succ_eq_append_getElem hlt
        have e2 : l2.drop t = l2[t] :: l2.drop (t + 1) := List.drop_eq_getElem_cons hlt
        rw [hP, List.drop_succ_cons, e1, e2]
        simp only [List.append_assoc, List.cons_append, List.nil_append]
      have hov := HD.out.row
      rw [hrow] at hov
      have hc := (hov.store (k := P.length + 1) (by simp only [List.length_map, List.length_append, List.length_cons]; omega) (encStr l2[t])).1
      rw [show ((P ++ y :: l2[t] :: l2.drop (t + 1)).map encStr)[P.length + 1]'(by simp only [List.length_map, List.length_append, List.length_cons]; omega) = .string ⟨(l2[t]).toArray⟩ from by rw [List.getElem_map, List.getElem_append_right (by omega)]; simp] at hc
      obtain ⟨hi1, hi2, hi3⟩ := hov.store (k := P.length) (by simp) (encStr l2[t])
      rw [show ((P ++ y :: l2[t] :: l2.drop (t + 1)).map encStr)[P.length]'(by simp) = .string ⟨y.toArray⟩ from by rw [List.getElem_map, List.getElem_append_right (Nat.le_refl _)]; simp] at hi1
      rw [show ((P ++ y :: l2[t] :: l2.drop (t + 1)).map encStr).set P.length (encStr l2[t]) = (P ++ l2[t] :: l2[t] :: l2.drop (t + 1)).map encStr from by
        rw [List.map_append, List.set_append_right _ _ (by simp)]; simp] at hi3
      have hne : (l2[t] == fileN b n) = false := beq_eq_false_iff_ne.2 (fun e => H2.out (by rw [← e]; exact List.getElem_mem hlt))
      have PK := Lib.hid (slotPick HD.out.ca _ _ hne)
      rw [hPl, show l1.length + t + 1 = l1.length + 1 + t from by omega] at hc
      rw [hPl] at hi1 hi2 hi3
      rw [← hrow2] at hi3
      have hovb := HD.out.row
      rw [hrow] at hovb
      have HOVB := Lib.hid hovb
      have HR2 := Lib.hid hrow2
      have HPL := Lib.hid hPl
      have HCA := Lib.hid HD.out.ca
      have HMD := Lib.hid HD.out.mods
      generalize l2[t] = f at *
      have hj0 : (0 : Int) ≤ ((l1.length + 1 + t : Nat) : Int) := by omega
      have hj1 : ((l1.length + 1 + t : Nat) : Int) < (m : Int) := by omega
      have hi0 : (0 : Int) ≤ ((l1.length + t : Nat) : Int) := by omega
      have hi01 : ((l1.length + t : Nat) : Int) < (m : Int) := by omega
      clear hov hovb hi1 hi2 hi3 hne hrow hrow2 hP hPl hy HD
      go_wp2_with fail
      refine PK.out.mono ?_
      rintro e w2 ⟨rfl, b2⟩
      have hov := HOVB.out.below b2
      obtain ⟨hi1, hi2, hi3⟩ := hov.store (k := P.length) (by simp) (encStr f)
      rw [show ((P ++ y :: f :: l2.drop (t + 1)).map encStr)[P.length]'(by simp) = .string ⟨y.toArray⟩ from by rw [List.getElem_map, List.getElem_append_right (Nat.le_refl _)]; simp] at hi1
      rw [show ((P ++ y :: f :: l2.drop (t + 1)).map encStr).set P.length (encStr f) = (P ++ f :: f :: l2.drop (t + 1)).map encStr from by
        rw [List.map_append, List.set_append_right _ _ (by simp)]; simp] at hi3
      rw [HPL.out] at hi1 hi2 hi3
      rw [← HR2.out] at hi3
      have hm2 : Mods (· = g) w2 (w2.setCell ⟨g, l1.length + t, none⟩ (encStr f)) := (Mods.refl (· = g) w2).setCell ⟨g, _, none⟩ (.inl rfl) _
      have HA2 : Hid (DelAt B p c6 c7 g co b n w l1 l2 (t + 1) (w2.setCell ⟨g, l1.length + t, none⟩ (encStr f))) := Lib.hid ⟨hi3, (HCA.out.below b2).mods hm2 hgB n6 n7 np, (HMD.out.below b2).then hm2⟩
      clear hi3 hov hm2 b2 HOVB HR2 HPL HCA HMD PK hc
      go_wp2_with fail
      go_roundw
      case rel => exact ⟨t + 1, by omega, by go_num, by go_num, HA2⟩
      case measure => simp [intOf]; omega
    · obtain rfl : t = l2.length := by omega
      have hov := HD.out.row
      rw [List.take_length] at hov
      obtain ⟨cur, hg, _, _, hmx, hsz, _⟩ := hov.cur
      have hnl : (l1 ++ l2).length = l1.length + l2.length := List.length_append
      obtain ⟨zs, hzs, hcl⟩ := run_clear1 (P := Tryz.prog) (k := 1) wr 39 9 0 Tryz.underlying39 str_zero rfl (by decide) (by simp [Value.cells, Value.oneCell']) g (l1.length + l2.length) (co - (l1.length + l2.length)) cur hg (by omega)
      have h3 := hov.cutAt hg (l1.length + l2.length) (by simp only [List.length_map, List.length_append]; omega) zs (by omega)
      have htk : (l1 ++ l2 ++ (fileN b n :: l2).drop l2.length).take (l1.length + l2.length) = l1 ++ l2 := by rw [← hnl]; exact List.take_left' rfl
      rw [← List.map_take, htk] at h3
      have HO3 := Lib.hid h3
      have HM3 := Lib.hid (HD.out.mods.setRow g (.inl rfl) (cur.toList.take (l1.length + l2.length) ++ zs ++ cur.toList.drop (l1.length + l2.length + zs.length)).toArray)
      have hjn : ¬ (((l1.length + 1 + l2.length : Nat) : Int) < (m : Int)) := by omega
      rw [show (1 : Nat) = m - (l1.length + l2.length) from by omega] at hcl
      have hq0 : (0 : Int) ≤ ((l1.length + l2.length : Nat) : Int) := by omega
      have hq1 : ((l1.length + l2.length : Nat) : Int) ≤ (m : Int) := by omega
      clear hov h3 hg hsz hzs HD H2
      generalize wr.setRow g (cur.toList.take (l1.length + l2.length) ++ zs ++ cur.toList.drop (l1.length + l2.length + zs.length)).toArray = w3 at *
      go_wp2_with fail
      go_ret
      refine ⟨rfl, ?_, HM3.out⟩
      first | exact HO3.out | (rw [← List.map_append]; exact HO3.out)
end
end Go.Proofs.YtpfamdcdbjaflaaGreatDoor
