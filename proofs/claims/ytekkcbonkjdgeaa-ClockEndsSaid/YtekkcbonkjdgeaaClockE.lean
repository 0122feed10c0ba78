/- Contract of package clock's Pass. -/
import Derived.Test.YtekkcbonkjdgeaaClockD
namespace Go.Proofs.Ytekkcbonkjdgeaa
open Go.RowKit

def endsL : List Int := (List.range 33).map fun (i : Nat) => (i : Int) - 16
theorem mem_ends {x : Int} : x ∈ endsL ↔ -16 ≤ x ∧ x ≤ 16 := by
  unfold endsL
  rw [List.mem_map]
  constructor
  · rintro ⟨i, hi, rfl⟩
    rw [List.mem_range] at hi
    omega
  · intro h
    exact ⟨(x + 16).toNat, by rw [List.mem_range]; omega, by omega⟩
/-- Would some time be too long? -/
def overB (s : Clk) (k : Int) (draw : Nat) : Bool := endsL.any (fun x => inE s.nodes s.edges x && decide (1152921504606846976 < s.T x + stepV k s.rho draw x)) || decide (1152921504606846976 < s.real + k)
theorem inE_range {s : Clk} (h : s.ok) {x : Int} (hx : inE s.nodes s.edges x = true) : (-16 ≤ x ∧ x ≤ 16) ∧ x ≠ 0 := by
  obtain ⟨⟨a1, a2⟩, ⟨b1, b2⟩, _⟩ := h
  unfold inE at hx
  simp at hx
  omega
theorem overB_end {s : Clk} (h : s.ok) {k : Int} {draw : Nat} {x : Int} (hx : inE s.nodes s.edges x = true) (ho : 1152921504606846976 < s.T x + stepV k s.rho draw x) : overB s k draw = true := by
  unfold overB
  rw [Bool.or_eq_true, List.any_eq_true]
  exact .inl ⟨x, mem_ends.2 (inE_range h hx).1, by simp [hx, ho]⟩
theorem overB_real {s : Clk} {k : Int} {draw : Nat} (ho : 1152921504606846976 < s.real + k) : overB s k draw = true := by
  unfold overB
  simp [ho]
theorem overB_not {s : Clk} {k : Int} {draw : Nat} (h : ∀ x, inE s.nodes s.edges x = true → s.T x + stepV k s.rho draw x ≤ 1152921504606846976) (hr : s.real + k ≤ 1152921504606846976) : overB s k draw = false := by
  unfold overB
  rw [Bool.or_eq_false_iff, List.any_eq_false]
  refine ⟨fun x _ => ?_, by simp; omega⟩
  cases hx : inE s.nodes s.edges x
  · simp
  · have := h x hx
    simp; omega
def passE (s : Clk) (k : Int) (draw : Nat) : Int := if k < 0 ∨ 1099511627776 < k then 1 else if overB s k draw = true then 3 else 0
def passS (s : Clk) (k : Int) (draw : Nat) : Clk := if passE s k draw = 0 then { s with real := s.real + k, T := fun y => s.T y + stepV k s.rho draw y } else s

theorem mem_mget {es : List (Int × Value)} {p : Int × Value} (hn : (es.map Prod.fst).Nodup) (h : p ∈ es) : mget es p.1 = some p.2 := mget_some_of_mem hn h
theorem keys_erase {α β : Type} {L : List (α × β)} (hn : (L.map Prod.fst).Nodup) {i : Nat} {k : α} {v : β} (hi : L[i]? = some (k, v)) (y : α) : y ∈ (L.eraseIdx i).map Prod.fst ↔ y ∈ L.map Prod.fst ∧ y ≠ k := by
  induction L generalizing i with
  | nil => simp at hi
  | cons p L ih =>
    rw [List.map_cons, List.nodup_cons] at hn
    cases i with
    | zero =>
      simp at hi
      subst hi
      rw [List.eraseIdx_cons_zero, List.map_cons, List.mem_cons]
      constructor
      · intro h
        exact ⟨.inr h, fun e => hn.1 (by rw [← e]; exact h)⟩
      · rintro ⟨h | h, hne⟩
        · exact absurd h hne
        · exact h
    | succ i =>
      simp at hi
      rw [List.eraseIdx_cons_succ, List.map_cons, List.mem_cons, ih hn.2 hi, List.map_cons, List.mem_cons]
      have hk : k ∈ L.map Prod.fst := List.mem_map.2 ⟨(k, v), List.mem_of_getElem? hi, rfl⟩
      constructor
      · rintro (h | ⟨h, hne⟩)
        · exact ⟨.inl h, fun e => hn.1 (by rw [← h, e]; exact hk)⟩
        · exact ⟨.inr h, hne⟩
      · rintro ⟨h | h, hne⟩
        · exact .inl h
        · exact .inr ⟨h, hne⟩

section
variable {n : Nat} {w : World} {g : Nat} {s : Clk}
theorem pass_same {w' : World} {k er : Int} {draw : Nat} (h : CI n w g s) (hn : n ≤ w.heap.size) (hb : Below w.heap.size w w') (he : passE s k draw = er) (hne : er ≠ 0) : (Ending.returned (.int .i64 er) = .returned (.int .i64 (passE s k draw))) ∧ CI n w' g (passS s k draw) ∧ Keep badC n w w' := by
  refine ⟨by rw [he], ?_, .of_below hb hn⟩
  rw [passS, he, if_neg hne]
  exact h.below hb

set_option maxRecDepth 20000 in
set_option maxHeartbeats 8000000 in
theorem clockPass (k : Int) (draw : Nat) (h : CI n w g s) (hn : n ≤ w.heap.size) (hd : draw < 18446744073709551616) : Calls Try.prog 28 #[.pointer (some ⟨g, 0, none⟩), .int .i64 k, .int .u64 (draw : Int)] w fun e w' => e = .returned (.int .i64 (passE s k draw)) ∧ CI n w' g (passS s k draw) ∧ Keep badC n w w' := by
  by_cases h0 : k < 0
  · have HF := Lib.hid (pass_same (k := k) (draw := draw) h hn (Below.refl _ _) (by rw [passE, if_pos (.inl h0)]) (by decide))
    clear h
    go_enter Try.func28, Try.ntmps28
    go_wp2_with fail
    go_ret
    exact HF.out
  by_cases h1 : 1099511627776 < k
  · have HF := Lib.hid (pass_same (k := k) (draw := draw) h hn (Below.refl _ _) (by rw [passE, if_pos (.inr h1)]) (by decide))
    clear h
    go_enter Try.func28, Try.ntmps28
    go_wp2_with fail
    go_ret
    exact HF.out
  have hk : ¬ (k < 0 ∨ 1099511627776 < k) := by omega
  have H := Lib.hid h
  have hok := h.ok
  have hgood : Good k s.rho := ⟨by omega, by omega, hok.2.2.1.1, hok.2.2.1.2⟩
  have HL := Lib.hid (fun w' => sumLeast k s.rho w' hgood)
  have HM := Lib.hid (fun w' => sumMost k s.rho w' hgood)
  unfold Two at HL HM
  have hlm := least_le_most hgood
  have HOKD := Lib.hid hok
  have hreal := hok.2.2.2.1
  have HSB : Hid (∀ x, inE s.nodes s.edges x = true → (0 ≤ s.T x ∧ s.T x ≤ 1152921504606846976) ∧ (-16 ≤ x ∧ x ≤ 16) ∧ x ≠ 0) := Lib.hid fun x hx => ⟨hok.2.2.2.2 x hx, (inE_range hok hx).1, (inE_range hok hx).2⟩
  have HST : Hid (∀ x, stepV k s.rho draw x = leastV k s.rho + (mostV k s.rho - leastV k s.rho) * (shareV x draw : Int) / 15) := Lib.hid fun x => rfl
  have HPE : Hid (∀ w', overB s k draw = true → Below w.heap.size w w' → (Ending.returned (.int .i64 3) = .returned (.int .i64 (passE s k draw))) ∧ CI n w' g (passS s k draw) ∧ Keep badC n w w') := Lib.hid fun w' ho hb => pass_same h hn hb (by rw [passE, if_neg hk, if_pos ho]) (by decide)
  have HPR : Hid (1152921504606846976 < s.real + k → overB s k draw = true) := Lib.hid overB_real
  have HPX : Hid (∀ x, inE s.nodes s.edges x = true → 1152921504606846976 < s.T x + stepV k s.rho draw x → overB s k draw = true) := Lib.hid fun x hx => overB_end hok hx
  obtain ⟨m, es, hblk, hmap, hes, hnm, _⟩ := h
  have HFIN : Hid (∀ (w' : World) (m2 : Nat) (es2 : List (Int × Value)), Below w.heap.size w w' → MapAt (Value.int .i64) w' m2 es2 → w.heap.size ≤ m2 → (∀ y, inE s.nodes s.edges y = true → s.T y + stepV k s.rho draw y ≤ 1152921504606846976) → s.real + k ≤ 1152921504606846976 →
      (∀ y, mget es2 y = if inE s.nodes s.edges y = true then some (.int .i64 (s.T y + stepV k s.rho draw y)) else none) →
      (Ending.returned (.int .i64 0) = .returned (.int .i64 (passE s k draw))) ∧ CI n ((w'.setCell ⟨g, 4, none⟩ (.int .i64 (s.real + k))).setCell ⟨g, 0, none⟩ (.map (some m2))) g (passS s k draw) ∧ Keep badC n w ((w'.setCell ⟨g, 4, none⟩ (.int .i64 (s.real + k))).setCell ⟨g, 0, none⟩ (.map (some m2)))) := Lib.hid fun w' m2 es2 hb2 hm2 hge hle hr hes2 => by
    have hov := overB_not hle hr
    have he : passE s k draw = 0 := by rw [passE, if_neg hk, if_neg (by rw [hov]; simp)]
    have hblk2 := hblk.kept hb2
    have hgm : m2 ≠ g := by have := hblk.lt; omega
    have hblk3 := (hblk2.setCell 4 (.int .i64 (s.real + k))).setCell 0 (.map (some m2))
    have hisg : ∀ o, w'.heap[g]? = some o → badC o := fun o ho => by
      rw [show w'.heap[g]? = _ from hblk2] at ho
      injection ho with ho
      subst ho
      exact rfl
    have hisg2 : ∀ o, (w'.setCell ⟨g, 4, none⟩ (.int .i64 (s.real + k))).heap[g]? = some o → badC o := fun o ho => by
      rw [show (w'.setCell ⟨g, 4, none⟩ (.int .i64 (s.real + k))).heap[g]? = _ from hblk2.setCell 4 _] at ho
      injection ho with ho
      subst ho
      exact rfl
    refine ⟨by rw [he], ?_, below_setCell (p := ⟨g, 0, none⟩) (below_setCell (p := ⟨g, 4, none⟩) (hb2.mono hn) hnm.1 _) hnm.1 _, ((TM.below hb2).setCellT (p := ⟨g, 4, none⟩) hisg _).setCellT (p := ⟨g, 0, none⟩) hisg2 _⟩
    rw [passS, if_pos he]
    refine ⟨m2, es2, hblk3, (hm2.setCell (p := ⟨g, 4, none⟩) hgm _).setCell (p := ⟨g, 0, none⟩) hgm _, fun y => ?_, ⟨hnm.1, by omega⟩, hok.1, hok.2.1, hok.2.2.1, ⟨by simp only; omega, hr⟩, fun y hy => ⟨?_, hle y hy⟩⟩
    · rw [hes2]; rfl
    · have h1 := (hok.2.2.2.2 y hy).1
      have h2 := (step_bd hgood draw y).1
      simp only
      omega
  have HNOD := Lib.hid hmap.nodup
  have HES := Lib.hid hes
  have c3 := hblk.cell 3 rfl
  have hmk := run_makeMap (P := Try.prog) 80 w
  have hal : Below w.heap.size w (w.alloc (.map #[] 0)) := (Below.refl _ _).alloc (Nat.le_refl _) _
  have c0' := (hblk.kept hal).cell 0 rfl
  have HBLK := Lib.hid hblk
  have HMAP := Lib.hid (hmap.below hal)
  have HNEW := Lib.hid (MapAt.made (kv := Value.int .i64) w)
  have hglt := hblk.lt
  have hmlt := hmap.lt
  clear hes hmap hblk hok H hk
  generalize s.rho = rho at *
  generalize s.real = real at *
  generalize leastV k rho = lo at *
  generalize mostV k rho = hi_ at *
  go_enter Try.func28, Try.ntmps28
  go_wp2_with fail
  refine (HL.out _).mono ?_
  rintro e w' ⟨rfl, rfl⟩
  go_wp2_with fail
  refine (HM.out _).mono ?_
  rintro e w' ⟨rfl, rfl⟩
  go_wp2_with (at_range; refine wp_rangeT _ rfl (.tmp 46) rfl Try.underlying80 rfl HMAP.out ?_; intro w1 hrg0 hb1 hs1)
  go_frame
  have hB1 : Below w.heap.size w w1 := hal.trans (hb1.mono hal.size)
  have hN1 := HNEW.out.below hb1
  have hsz : (w.alloc (.map #[] 0)).heap.size = w.heap.size + 1 := by simp
  rw [hsz] at hrg0 ⊢
  obtain ⟨m2, hm2⟩ : ∃ m2, m2 = w.heap.size := ⟨_, rfl⟩
  rw [← hm2] at hrg0 hN1 ⊢
  have HM2 := Lib.hid hm2
  clear hb1 hs1 hsz hmk hal c0' c3 hm2 HMAP HNEW HL HM
  go_loopw [6, 12, 13] (fun v6 _ _ wr => v6 = .int .i64 0 ∧ ∃ (todo es2 : List (Int × Value)), Ranging (Value.int .i64) wr m (m2 + 1) es todo ∧ MapAt (Value.int .i64) wr m2 es2 ∧
      Hid (∀ y, mget es2 y = if inE s.nodes s.edges y = true ∧ y ∉ todo.map Prod.fst then some (.int .i64 (s.T y + stepV k rho draw y)) else none) ∧
      Hid (∀ y, inE s.nodes s.edges y = true → y ∉ todo.map Prod.fst → s.T y + stepV k rho draw y ≤ 1152921504606846976) ∧ Below w.heap.size w wr) (fun _ _ _ wr => wr.rangeLeft m (m2 + 1))
  case atStart =>
    have hall : ∀ y, inE s.nodes s.edges y = true → y ∈ es.map Prod.fst := fun y hy => mget_isSome_iff.1 (by rw [HES.out, Clk.mapOf, if_pos hy]; rfl)
    exact ⟨rfl, es, [], hrg0, hN1, Lib.hid (fun y => by rw [if_neg (fun h => h.2 (hall y h.1))]; rfl), Lib.hid (fun y hy hn => absurd (hall y hy) hn), hB1⟩
  case round =>
    obtain ⟨rfl, todo, es2, hrg, hm2, hes2, hle, hB⟩ := hrel
    clear hrg0 hN1 hB1
    have hblkr := HBLK.out.kept hB
    have hsub := hrg.sub
    have hv : ∀ p ∈ es, ∃ c : Int, p.2 = Value.int .i64 c := fun p hp => by
      have h1 := mem_mget HNOD.out hp
      rw [HES.out, Clk.mapOf] at h1
      split at h1
      · injection h1 with h1
        exact ⟨_, h1.symm⟩
      · cases h1
    have HV := Lib.hid hv
    clear hv
    go_wp2_with (at_next; refine wp_nextT _ (Value.int .i64) rfl (.tmp 47) rfl rfl hrg HV.out ?_ ?_)
    · intro htodo
      subst htodo
      have hall : Hid (∀ y, inE s.nodes s.edges y = true → s.T y + stepV k rho draw y ≤ 1152921504606846976) := Lib.hid fun y hy => hle.out y hy (by simp)
      have hval : Hid (∀ y, mget es2 y = if inE s.nodes s.edges y = true then some (.int .i64 (s.T y + stepV k rho draw y)) else none) := Lib.hid fun y => by rw [hes2.out]; simp
      have c4 := hblkr.cell 4 rfl
      have c0 := hblkr.cell 0 rfl
      have f4 := hblkr.free 4
      have f0 := hblkr.free 0
      by_cases hro : 1152921504606846976 < real + k
      · have HF := Lib.hid (HPE.out wr (HPR.out hro) hB)
        clear hrg hm2 hes2 hle hB hblkr
        go_wp2_with fail
        go_ret
        exact HF.out
      · have HF := Lib.hid (HFIN.out wr m2 es2 hB hm2 (by have := HM2.out; omega) hall.out (by omega) hval.out)
        clear hrg hm2 hes2 hle hB hblkr
        go_wp2_with fail
        go_ret
        exact HF.out
    · intro i x c w2 hi hrg2 hg2 hs2 hen
      have hxm : x ∈ todo.map Prod.fst := List.mem_map.2 ⟨_, List.mem_of_getElem? hi, rfl⟩
      have hxc : inE s.nodes s.edges x = true ∧ c = s.T x := by
        have h1 := mem_mget HNOD.out (hsub.subset (List.mem_of_getElem? hi))
        rw [HES.out, Clk.mapOf] at h1
        split at h1
        · rename_i hx
          injection h1 with h1
          injection h1 with _ h1
          exact ⟨hx, h1.symm⟩
        · cases h1
      obtain ⟨hx, rfl⟩ := hxc
      obtain ⟨⟨t1, t2⟩, ⟨x1, x2⟩, x3⟩ := HSB.out x hx
      have hB2 : Below w.heap.size w w2 := hB.grown hg2 hB.size (fun b hb => by injection hb with hb; have := HM2.out; omega)
      have hm2' : MapAt (Value.int .i64) w2 m2 es2 := hm2.grown hg2 (by simp)
      have hkeys := keys_erase hrg.nodup hi
      have hlen : (todo.eraseIdx i).length < todo.length := by
        have := (List.getElem?_eq_some_iff.1 hi).1
        rw [List.length_eraseIdx, if_pos this]
        omega
      have hlt1 := hrg.left_eq
      have hsh := share_le x draw
      have hp := part_bd (d := hi_ - lo) (s := (shareV x draw : Int)) (by omega) (by omega) (by omega)
      have HST1 := Lib.hid (HST.out x)
      have SH := Lib.hid (clockShare x draw w2 x1 x2 x3 hd)
      have hst := HST.out x
      have hstb : 0 ≤ stepV k rho draw x := by rw [hst]; omega
      have HSTEP := Lib.hid hst
      have hq0 : 0 ≤ (hi_ - lo) * (shareV x draw : Int) / 15 := hp.2.2.1
      have HNEW2 : Hid (s.T x + stepV k rho draw x ≤ 1152921504606846976 → ∀ wx, MapAt (Value.int .i64) wx m2 (mput es2 x (.int .i64 (s.T x + stepV k rho draw x))) → Ranging (Value.int .i64) wx m (m2 + 1) es (todo.eraseIdx i) → Below w.heap.size w wx →
          (∃ todo es2, Ranging (Value.int .i64) wx m (m2 + 1) es todo ∧ MapAt (Value.int .i64) wx m2 es2 ∧
            Hid (∀ y, mget es2 y = if inE s.nodes s.edges y = true ∧ y ∉ todo.map Prod.fst then some (.int .i64 (s.T y + stepV k rho draw y)) else none) ∧
            Hid (∀ y, inE s.nodes s.edges y = true → y ∉ todo.map Prod.fst → s.T y + stepV k rho draw y ≤ 1152921504606846976) ∧ Below w.heap.size w wx) ∧ wx.rangeLeft m (m2 + 1) < wr.rangeLeft m (m2 + 1)) := Lib.hid fun hle2 wx hmx hrx hbx => by
        refine ⟨⟨_, _, hrx, hmx, Lib.hid fun y => ?_, Lib.hid fun y hy hn2 => ?_, hbx⟩, by rw [hrx.left_eq, hlt1]; exact hlen⟩
        · rw [mget_mputV, hes2.out]
          by_cases hy : y = x
          · subst hy
            rw [if_pos rfl, if_pos ⟨hx, fun h => ((hkeys y).1 h).2 rfl⟩]
          · rw [if_neg hy]
            congr 1
            rw [hkeys]
            simp [hy]
        · by_cases hyx : y = x
          · subst hyx; exact hle2
          · exact hle.out y hy (fun h => hn2 ((hkeys y).2 ⟨h, hyx⟩))
      have HBAD : Hid (1152921504606846976 < s.T x + stepV k rho draw x → overB s k draw = true) := Lib.hid (HPX.out x hx)
      have HRG := Lib.hid hrg2
      have HM := Lib.hid hm2'
      have HB2 := Lib.hid hB2
      clear hes2 hle hrg hm2 hB hg2 hs2 hkeys hlen hlt1 hsub hxm hblkr hrg2 hm2' hB2 hst HES HNOD HV
      obtain ⟨st, hst⟩ : ∃ st, st = stepV k rho draw x := ⟨_, rfl⟩
      rw [← hst] at hstb HSTEP HNEW2 HBAD
      have HST2 : Hid (lo + (hi_ - lo) * (shareV x draw : Int) / 15 = st) := Lib.hid HSTEP.out.symm
      generalize shareV x draw = sh at *
      generalize s.T x = t at *
      obtain ⟨hp1, hp2, hp3, hp4⟩ := hp
      by_cases hov : 1152921504606846976 < t + st
      · have HF := Lib.hid (HPE.out w2 (HBAD.out hov) HB2.out)
        have hov2 : 1152921504606846976 < t + (lo + (hi_ - lo) * (sh : Int) / 15) := by rw [HST2.out]; exact hov
        clear hst HSTEP
        go_wp2_with fail
        refine SH.out.mono ?_
        rintro e w' ⟨rfl, rfl⟩
        go_wp2_with fail
        go_ret
        exact HF.out
      · have hov2 : ¬ 1152921504606846976 < t + (lo + (hi_ - lo) * (sh : Int) / 15) := by rw [HST2.out]; exact hov
        clear hst HSTEP
        go_wp2_with fail
        refine SH.out.mono ?_
        rintro e w' ⟨rfl, rfl⟩
        go_wp2_with (at_mapUpdate; refine wp_mapUpdateT _ rfl intLaw HM.out (.tmp 67) (.tmp 68) (.tmp 69) rfl Try.underlying80 x (.int .i64 (t + (lo + (hi_ - lo) * (sh : Int) / 15))) rfl rfl rfl ?_; intro ob hmap2)
        rw [HST2.out] at hmap2
        have hnew := HNEW2.out (by omega) _ hmap2 (HRG.out.of_blocks (wset_other _ _ ob m (by have := HM2.out; omega)) (wset_other _ _ ob (m2 + 1) (by omega))) (below_wset HB2.out (by have := HM2.out; omega) ob)
        have HN := Lib.hid hnew
        clear hnew
        go_roundw
        case rel => (repeat apply Exists.intro); exact ⟨⟨rfl, HN.out.1⟩, rfl⟩
        case measure => exact HN.out.2
end
end Go.Proofs.Ytekkcbonkjdgeaa
