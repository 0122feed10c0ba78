/- Contracts of the reference's Script. -/
import Derived.Test.YtcinohmhhglpjaaDoorScrRv
import Derived.Test.YtcinohmhhglpjaaDoorArgsS
namespace Go.Proofs.YtcinohmhhglpjaaDoor
open Go.RowKit

theorem acts_row {w : World} {A : Option Addr} {xs : List Ap} (h : RS w A 13 (xs.map Ap.cells)) {k : Nat} (hk : k < xs.length) :
    ∃ b off, A = some ⟨b, off, none⟩ ∧ b < w.heap.size ∧ ∀ j v, xs[k].cells[j]? = some v → w.cell? ⟨b, off + k * 13 + j, none⟩ = some v := by
  obtain ⟨b, off, e, hb, hc⟩ := h.row (i := k) (by simpa using hk)
  refine ⟨b, off, e, hb, fun j v hj => hc j v ?_⟩
  rw [List.getElem_map]
  exact hj

/-- What Script answers. -/
def ScriptE (zs : List Int) (xs : List Ap) (w : World) (e : Ending) (w' : World) : Prop :=
  e = .returned (.tuple #[.string ⟨(scriptSays zs xs).1.toArray⟩, .int .i64 (scriptSays zs xs).2]) ∧ Below w.heap.size w w'
section
variable {zs : List Int} {xs : List Ap} {w w' : World}
theorem scriptE_bad {k : Nat} (hk : k < xs.length) (h : xs[k].ok = false) (hb : Below w.heap.size w w') : ScriptE zs xs w (.returned (.tuple #[.string ⟨#[]⟩, .int .i64 2])) w' := by
  have e : xs.all Ap.ok = false := by
    rw [List.all_eq_false]
    exact ⟨xs[k], List.getElem_mem hk, by simp [h]⟩
  unfold ScriptE scriptSays
  rw [e]
  exact ⟨rfl, hb⟩
theorem all_ok_of (h : ∀ a ∈ xs.take xs.length, a.ok = true) : xs.all Ap.ok = true := by
  rw [List.all_eq_true]
  rw [List.take_length] at h
  exact h
theorem scriptE_large (h : ∀ a ∈ xs.take xs.length, a.ok = true) (hl : 65536 < xs.length ∨ 65536 < ((xs.take xs.length).foldl addLine (setLine zs ++ [10])).length) (hb : Below w.heap.size w w') : ScriptE zs xs w (.returned (.tuple #[.string ⟨#[]⟩, .int .i64 7])) w' := by
  rw [List.take_length] at hl
  unfold ScriptE scriptSays scriptText
  rw [all_ok_of h, if_pos rfl, if_neg (by omega)]
  exact ⟨rfl, hb⟩
theorem scriptE_ok {t : List UInt8} (h : ∀ a ∈ xs.take xs.length, a.ok = true) (ht : t = (xs.take xs.length).foldl addLine (setLine zs ++ [10])) (h1 : xs.length ≤ 65536) (h2 : t.length ≤ 65536) (hb : Below w.heap.size w w') : ScriptE zs xs w (.returned (.tuple #[.string ⟨t.toArray⟩, .int .i64 0])) w' := by
  rw [List.take_length] at ht
  subst ht
  unfold ScriptE scriptSays scriptText
  rw [all_ok_of h, if_pos rfl, if_pos ⟨h1, h2⟩]
  exact ⟨rfl, hb⟩
end
theorem take_ok {xs : List Ap} {k : Nat} (hk : k < xs.length) (h : ∀ a ∈ xs.take k, a.ok = true) (ho : xs[k].ok = true) : ∀ a ∈ xs.take (k + 1), a.ok = true := by
  intro a ha
  rw [List.take_succ_eq_append_getElem hk] at ha
  rcases List.mem_append.1 ha with ha | ha
  · exact h a ha
  · rw [List.mem_singleton] at ha; subst ha; exact ho
theorem take_fold {xs : List Ap} {k : Nat} (hk : k < xs.length) (t : List UInt8) : (xs.take (k + 1)).foldl addLine t = addLine ((xs.take k).foldl addLine t) xs[k] := by
  rw [List.take_succ_eq_append_getElem hk, foldl_snoc]

theorem OM.base_le {w : World} {base B c : Nat} {A : Option Addr} {l : List UInt8} (h : OM w base A c l) (hB : B ≤ base) : OM w B A c l := by
  rcases h with h | ⟨g, cur, h1, h2, r⟩
  · exact .inl (h.base_le hB)
  · exact .inr ⟨g, cur, h1, Nat.le_trans hB h2, r⟩
theorem ten : ∀ {zs : List Int}, zs.length = 10 → ∃ z0 z1 z2 z3 z4 z5 z6 z7 z8 z9, zs = [z0, z1, z2, z3, z4, z5, z6, z7, z8, z9]
  | [z0, z1, z2, z3, z4, z5, z6, z7, z8, z9], _ => ⟨_, _, _, _, _, _, _, _, _, _, rfl⟩
theorem oneB (W : World) (x : UInt8) {V : Int} (h : V = (x.toNat : Int)) : RB (W.alloc (.cells #[.int .u8 V] 5)) (some ⟨W.heap.size, 0, none⟩) [x] := RB.one W x h

set_option maxRecDepth 20000 in
set_option maxHeartbeats 1000000 in
theorem refScript (zs : List Int) (h10 : zs.length = 10) (hz : ∀ z ∈ zs, -9223372036854775808 ≤ z ∧ z ≤ 9223372036854775807) (A : Option Addr) (c : Nat) (xs : List Ap) (hn : xs.length ≤ 140737488351232) (ha : ∀ a ∈ xs, a.wf) (w : World) (hr : RS w A 13 (xs.map Ap.cells)) :
    Calls Tryd.prog 10 #[.agg (zs.map (Value.int .i64)).toArray, .slice A xs.length c] w (ScriptE zs xs w) := by
  have CS := Lib.hid (refSetting zs h10 hz)
  have hsl := set_len h10 hz
  have HA := Lib.hid ha
  have hB0 : Below w.heap.size w (w.alloc (.cells (zs.map (Value.int .i64)).toArray 23)) := (Below.refl _ _).alloc (Nat.le_refl _) _
  have HR := Lib.hid hr
  obtain ⟨t0, ht0, hl0, hcat⟩ := catE (setLine zs) [10] 300 1 301 hsl (by simp) (by decide) (by decide)
  have HT0 : Hid (t0.length ≤ 67200) := Lib.hid (by omega)
  have HS : Hid (t0 = setLine zs ++ [10]) := ht0
  obtain ⟨sl, hsl0⟩ : ∃ sl, sl = setLine zs := ⟨_, rfl⟩
  rw [← hsl0] at CS hsl hcat HS
  have HSL := Lib.hid hsl0
  have HZ : Hid ((zs.map (Value.int .i64)).toArray.size = 10) := Lib.hid (by simp [h10])
  obtain ⟨z0, z1, z2, z3, z4, z5, z6, z7, z8, z9, rfl⟩ := ten h10
  clear h10 hz ha hr ht0 hsl HZ hsl0
  simp only [List.map_cons, List.map_nil] at *
  go_enter Tryd.func10, Tryd.ntmps10
  go_wp2_with (go_at_call 26; refine (CS.out _).mono ?_)
  rintro e w1 ⟨rfl, hb1⟩
  have hB1 := hB0.trans (hb1.mono hB0.size)
  clear hB0 hb1 CS
  obtain ⟨c2, w2, hcv, hom, hb2⟩ := strBytes w1 t0 (by omega)
  have hB2 := hB1.trans (hb2.mono hB1.size)
  have HOM := Lib.hid (hom.base_le hB1.size)
  clear hom hb2
  go_wp2_with fail
  go_loopw [6, 7] (fun o i wr => ∃ (k : Nat) (A' : Option Addr) (c' : Nat) (t : List UInt8), k ≤ xs.length ∧ i = .int .i64 (k : Int) ∧ o = .slice A' t.length c' ∧ t.length ≤ 67200 ∧ Hid (t = (xs.take k).foldl addLine t0) ∧ Hid (∀ a ∈ xs.take k, a.ok = true) ∧ Hid (OM wr w.heap.size A' c' t) ∧ Hid (Below w.heap.size w wr)) (fun _ i _ => xs.length - (intOf i).toNat)
  case atStart => exact ⟨0, _, _, t0, Nat.zero_le _, rfl, rfl, HT0.out, Lib.hid rfl, Lib.hid (by simp), HOM, Lib.hid hB2⟩
  case round =>
    clear HOM hB2 hB1 hcv
    obtain ⟨k, A', c', t, hk, rfl, rfl, ht, hv, HK, HO, HB⟩ := hrel
    have hsz := HB.out.size
    by_cases hlt : k < xs.length
    · obtain ⟨b, off, rfl, hbl, hc⟩ := acts_row (HR.out.below HB.out) hlt
      have hwf := HA.out _ (List.getElem_mem hlt)
      have CA := Lib.hid (refAct xs[k] hwf)
      have HBAD := Lib.hid (fun (h : xs[k].ok = false) (w' : World) (hb : Below w.heap.size w w') => scriptE_bad (zs := [z0, z1, z2, z3, z4, z5, z6, z7, z8, z9]) hlt h hb)
      have HOK := Lib.hid (take_ok hlt HK.out)
      have HTF := Lib.hid (take_fold hlt t0)
      have HLL := Lib.hid (fun h => Ap.line_len hwf h)
      generalize xs[k] = a at *
      obtain ⟨kind, ka, kb, kn, kdraw, kmask, ⟨ses, seq, op, key, amount, span, lease⟩⟩ := a
      have d0 := hc 0 _ rfl
      have d1 := hc 1 _ rfl
      have d2 := hc 2 _ rfl
      have d3 := hc 3 _ rfl
      have d4 := hc 4 _ rfl
      have d5 := hc 5 _ rfl
      have d6 := hc 6 _ rfl
      have d7 := hc 7 _ rfl
      have d8 := hc 8 _ rfl
      have d9 := hc 9 _ rfl
      have d10 := hc 10 _ rfl
      have d11 := hc 11 _ rfl
      have d12 := hc 12 _ rfl
      simp only [Nat.add_zero] at d0
      clear hc hwf
      unfold Ap.cells Cm.cells at CA
      simp only [List.cons_append, List.nil_append] at CA
      cases hok : Ap.ok ⟨kind, ka, kb, kn, kdraw, kmask, ⟨ses, seq, op, key, amount, span, lease⟩⟩
      · have H2 := Lib.hid (HBAD.out hok)
        unfold RefActE at CA
        rw [hok] at CA
        simp only [Bool.false_eq_true, if_false] at CA
        clear hok HBAD HOK HTF HLL
        go_wp2_with (go_at_call 13; refine (CA.out _).mono ?_)
        rintro e w3 rfl hb3
        go_wp2_with fail
        go_ret2
        exact H2.out _ (HB.out.trans (hb3.mono HB.out.size))
      · have HOK2 := Lib.hid (HOK.out hok)
        have hll := HLL.out hok
        unfold RefActE at CA
        rw [hok] at CA
        simp only [if_true] at CA
        clear hok HBAD HOK HLL
        have HTF2 := Lib.hid (fun (hb : t.length ≤ 65536) => (show (xs.take (k + 1)).foldl addLine t0 = t ++ Ap.line ⟨kind, ka, kb, kn, kdraw, kmask, ⟨ses, seq, op, key, amount, span, lease⟩⟩ ++ [10] by rw [HTF.out, ← hv.out]; unfold addLine; rw [if_pos hb]))
        generalize Ap.line ⟨kind, ka, kb, kn, kdraw, kmask, ⟨ses, seq, op, key, amount, span, lease⟩⟩ = ln at *
        go_wp2_with (go_at_call 13; refine (CA.out _).mono ?_)
        rintro e w3 rfl hb3
        have HO3 := Lib.hid (HO.out.below hb3)
        have HB3 := Lib.hid (HB.out.trans (hb3.mono HB.out.size))
        have hsz3 := HB3.out.size
        clear CA d0 d1 d2 d3 d4 d5 d6 d7 d8 d9 d10 d11 d12 hb3 HO HB hsz
        by_cases hbig : t.length ≤ 65536
        · have hTA : Hid ((xs.take (k + 1)).foldl addLine t0 = t ++ ln ++ [10]) := Lib.hid (HTF2.out hbig)
          go_wp2_with (at_builtin; refine wp_appendMs _ rfl _ _ rfl w.heap.size A' c' t ln rfl rfl HO3.out (by omega) hsz3 ?_)
          intro k1 A1 c1 w4 hk1 hk1l ho4 hg4
          have HB4 := Lib.hid (OM.gb hg4 HO3.out HB3.out hsz3)
          have HO4 := Lib.hid ho4
          have hsz4 := HB4.out.size
          clear ho4 hg4
          have hk1b : k1.length ≤ 67136 := by omega
          have HKL := Lib.hid hk1l
          clear hk1l
          go_wp2_with (at_builtin; refine wp_appendM1 _ rfl _ _ rfl w.heap.size A1 c1 w4.heap.size k1 10 rfl rfl (HO4.out.below ((Below.refl _ _).alloc (Nat.le_refl _) _)) (oneB w4 10 rfl) (by omega) (by simp; omega) ?_)
          intro k2 A2 c2 w5 hk2 hk2l ho5 hg5
          have HB5 := Lib.hid (OM.gb hg5 (HO4.out.below ((Below.refl _ _).alloc (Nat.le_refl _) _)) (HB4.out.alloc hsz4 _) (by simp; omega))
          have HO5 := Lib.hid ho5
          have hk2b : k2.length ≤ 67200 := by omega
          have HK2L := Lib.hid hk2l
          clear ho5 hg5 hk2l
          go_wp2_with fail
          go_roundw
          case rel => exact ⟨k + 1, A2, c2, k2, by omega, by go_num, rfl, hk2b, Lib.hid (by rw [hTA.out, hk2.out, hk1.out]), HOK2, HO5, HB5⟩
          case measure => simp [intOf]; omega
        · have hTA : Hid ((xs.take (k + 1)).foldl addLine t0 = t) := Lib.hid (by rw [HTF.out, ← hv.out]; unfold addLine; rw [if_neg hbig])
          go_wp2_with fail
          go_roundw
          case rel => exact ⟨k + 1, A', c', t, by omega, by go_num, rfl, ht, Lib.hid hTA.out.symm, HOK2, HO3, HB3⟩
          case measure => simp [intOf]; omega
    · obtain rfl : k = xs.length := by omega
      have HV : Hid (t = (xs.take xs.length).foldl addLine (sl ++ [10])) := Lib.hid (by rw [hv.out, HS.out])
      clear HA
      by_cases hb1 : xs.length ≤ 65536
      · by_cases hb2 : t.length ≤ 65536
        · have hcv := convB c' HO.out.rb
          go_wp2_with fail
          go_ret2
          exact scriptE_ok HK.out (by rw [HV.out, HSL.out]) (by omega) (by omega) HB.out
        · have HL2 : Hid (65536 < xs.length ∨ 65536 < ((xs.take xs.length).foldl addLine (sl ++ [10])).length) := Lib.hid (.inr (by rw [← HV.out]; omega))
          rw [HSL.out] at HL2
          go_wp2_with fail
          go_ret2
          exact scriptE_large HK.out HL2.out HB.out
      · have HL2 : Hid (65536 < xs.length ∨ 65536 < ((xs.take xs.length).foldl addLine (sl ++ [10])).length) := Lib.hid (.inl (by omega))
        rw [HSL.out] at HL2
        go_wp2_with fail
        go_ret2
        exact scriptE_large HK.out HL2.out HB.out
end Go.Proofs.YtcinohmhhglpjaaDoor
