/- Contracts of Total, and the walks of the laws SumTotal and SumRing. -/
import Derived.Test.YtogcdbodlomgeaaWSumA
import Derived.Test.YtogcdbodlomgeaaArgs
import Derived.Test.YtogcdbodlomgeaaVals
namespace Go.Proofs.Ytogcdbodlomgeaa
open Go.RowKit

/-- The sum of a list from n on: the number, the error. -/
def tot : Int → List Int → Int × Int
  | n, [] => (n, 0)
  | n, x :: l => if fits (n + x) then tot (n + x) l else (0, 3)

theorem tot_step {n : Int} {l : List Int} {k : Nat} (h : k < l.length) : tot n (l.drop k) = if fits (n + l[k]) then tot (n + l[k]) (l.drop (k + 1)) else (0, 3) := by
  rw [List.drop_eq_getElem_cons h, tot]

theorem i64_info : (Try.prog.info? 2).map (fun i => (i.zero, i.size, i.bytes)) = some (some (.int .i64 0), 1, 8) := by kernel_rfl

set_option maxHeartbeats 1000000 in
theorem sumTotal (A : Option Addr) (c : Nat) (l : List Int) (w : World) (h : RV w A (ncells .i64 l)) (hl : l.length ≤ 9223372036854775807) (hI : ∀ z ∈ l, I64 z) :
    Calls Try.prog 18 #[.slice A l.length c] w (Two (tot 0 l).1 (tot 0 l).2 w) := by
  have HI := Lib.hid hI
  clear hI
  go_enter Try.func18, Try.ntmps18
  go_wp2_with fail
  go_loop [4, 10] (fun v i => ∃ (k : Nat) (n : Int), k ≤ l.length ∧ i = .int .i64 (k : Int) ∧ v = .int .i64 n ∧ I64 n ∧ Hid (tot n (l.drop k) = tot 0 l))
    (fun _ i => l.length - (intOf i).toNat)
  case atStart => exact ⟨0, 0, Nat.zero_le _, rfl, rfl, ⟨by omega, by omega⟩, Lib.hid (by simp)⟩
  case round =>
    obtain ⟨k, n, hk, rfl, rfl, hn, ht⟩ := hrel
    by_cases hlt : k < l.length
    · obtain ⟨bb, off, rfl, hbb, hc⟩ := h.cell (j := k) (by rw [ncells_length]; exact hlt)
      rw [show (ncells .i64 l)[k]'(by rw [ncells_length]; exact hlt) = .int .i64 l[k] from by simp [ncells]] at hc
      have hz := HI.out l[k] (List.getElem_mem hlt)
      have hts := ht.out
      rw [tot_step hlt] at hts
      obtain ⟨z, hze⟩ : ∃ z, z = l[k] := ⟨_, rfl⟩
      rw [← hze] at hc hz hts
      have HTS := Lib.hid hts
      clear hts hze ht
      go_wp2_with fail
      refine (sumAdd n z _ hn hz).mono ?_
      rintro e w' ⟨rfl, rfl⟩
      by_cases hf : fits (n + z) = true
      · have hb := fits_iff.1 hf
        have hts := HTS.out
        rw [if_pos hf] at hts
        have HT := Lib.hid hts
        rw [cutV_yes hb.1 hb.2, cutE_yes hb.1 hb.2]
        obtain ⟨m, hm⟩ : ∃ m, m = n + z := ⟨_, rfl⟩
        rw [← hm] at HT hb ⊢
        clear hts HTS hf hm
        go_wp2_with fail
        go_round
        case rel => exact ⟨k + 1, m, by omega, by go_num, rfl, hb, HT⟩
        case measure => simp [intOf]; omega
      · have hts := HTS.out
        rw [if_neg hf] at hts
        have hb : ¬ I64 (n + z) := fun hh => hf (fits_iff.2 hh)
        have hv : cutV (n + z) = 0 := by simp [cutV, hf]
        have he : cutE (n + z) = 3 := by simp [cutE, hf]
        rw [hv, he]
        have HT := Lib.hid hts
        clear hts HTS
        go_wp2_with fail
        go_ret2
        exact two_mk (by rw [← HT.out]) (by rw [← HT.out])
    · obtain rfl : k = l.length := by omega
      have ht' := ht.out
      rw [List.drop_length, tot] at ht'
      have HT := Lib.hid ht'
      clear ht' ht
      go_wp2_with fail
      go_ret2
      exact two_mk (by rw [← HT.out]) (by rw [← HT.out])

set_option maxHeartbeats 1000000 in
theorem refTotal (A : Option Addr) (c : Nat) (l : List Int) (w : World) (h : RV w A (ncells .i64 l)) (hl : l.length ≤ 9223372036854775807) (hI : ∀ z ∈ l, I64 z) :
    Calls Try.prog 19 #[.slice A l.length c] w (Two (tot 0 l).1 (tot 0 l).2 w) := by
  have HI := Lib.hid hI
  clear hI
  go_enter Try.func19, Try.ntmps19
  go_wp2_with fail
  go_loop [4, 5] (fun v i => ∃ (k : Nat) (n : Int), k ≤ l.length ∧ i = .int .i64 (k : Int) ∧ v = .int .i64 n ∧ I64 n ∧ Hid (tot n (l.drop k) = tot 0 l))
    (fun _ i => l.length - (intOf i).toNat)
  case atStart => exact ⟨0, 0, Nat.zero_le _, rfl, rfl, ⟨by omega, by omega⟩, Lib.hid (by simp)⟩
  case round =>
    obtain ⟨k, n, hk, rfl, rfl, hn, ht⟩ := hrel
    by_cases hlt : k < l.length
    · obtain ⟨bb, off, rfl, hbb, hc⟩ := h.cell (j := k) (by rw [ncells_length]; exact hlt)
      rw [show (ncells .i64 l)[k]'(by rw [ncells_length]; exact hlt) = .int .i64 l[k] from by simp [ncells]] at hc
      have hz := HI.out l[k] (List.getElem_mem hlt)
      have hts := ht.out
      rw [tot_step hlt] at hts
      obtain ⟨z, hze⟩ : ∃ z, z = l[k] := ⟨_, rfl⟩
      rw [← hze] at hc hz hts
      have HTS := Lib.hid hts
      clear hts hze ht
      go_wp2_with fail
      refine (refAdd n z _ hn hz).mono ?_
      rintro e w' ⟨rfl, rfl⟩
      by_cases hf : fits (n + z) = true
      · have hb := fits_iff.1 hf
        have hts := HTS.out
        rw [if_pos hf] at hts
        have HT := Lib.hid hts
        rw [cutV_yes hb.1 hb.2, cutE_yes hb.1 hb.2]
        obtain ⟨m, hm⟩ : ∃ m, m = n + z := ⟨_, rfl⟩
        rw [← hm] at HT hb ⊢
        clear hts HTS hf hm
        go_wp2_with fail
        go_round
        case rel => exact ⟨k + 1, m, by omega, by go_num, rfl, hb, HT⟩
        case measure => simp [intOf]; omega
      · have hts := HTS.out
        rw [if_neg hf] at hts
        have hv : cutV (n + z) = 0 := by simp [cutV, hf]
        have he : cutE (n + z) = 3 := by simp [cutE, hf]
        rw [hv, he]
        have HT := Lib.hid hts
        clear hts HTS
        go_wp2_with fail
        go_ret2
        exact two_mk (by rw [← HT.out]) (by rw [← HT.out])
    · obtain rfl : k = l.length := by omega
      have ht' := ht.out
      rw [List.drop_length, tot] at ht'
      have HT := Lib.hid ht'
      clear ht' ht
      go_wp2_with fail
      go_ret2
      exact two_mk (by rw [← HT.out]) (by rw [← HT.out])

set_option maxHeartbeats 1000000 in
theorem walkSumTotal (A : Option Addr) (c : Nat) (l : List Int) (w : World) (h : RV w A (ncells .i64 l)) (hwf : ∀ z ∈ l, (Lit.int .i64 z).wf = true) (hl : l.length * 8 ≤ 140737488355328) :
    Calls Try.prog 4 #[.slice A l.length c] w (Yes w) := by
  obtain ⟨i0, hi0, hz0, hz1, hz2⟩ := info_parts i64_info
  have HI : Hid (∀ z ∈ l, I64 z) := Lib.hid fun z hz => i64_of_wf (hwf z hz)
  clear hwf
  have hln := ncells_length .i64 l
  rw [← hln]
  go_enter Try.func4, Try.ntmps4
  go_wp2_with (at_builtin; refine wp_appendV _ rfl (.tmp 8) (.tmp 9) 34 2 rfl Try.underlying34 hi0 hz0 hz1 hz2 rfl w.heap.size _ A 0 c [] (ncells .i64 l) rfl rfl (OV.made0 _ _ (Nat.le_refl _)) (h.below ((Below.refl _ _).alloc (Nat.le_refl _) _)) (by intro v hv; obtain ⟨z, _, rfl⟩ := List.mem_map.1 hv; rfl) (by rw [hln]; simp; omega) (by rw [hln]; simp; omega) (by simp) ?_; intro ys A2 c2 w2 hys hys1 hys2 ho2 hg2 _)
  have hb2 : Below w.heap.size w w2 := ((Below.refl _ _).alloc (Nat.le_refl _) _).grown hg2 (by simp) (by simp [Value.ownBlock])
  have he : ys = ncells .i64 l := by simpa using hys.out
  have hyl : ys.length = l.length := by rw [he, hln]
  rw [hyl]
  have hr2 := ho2.rv
  rw [he] at hr2
  refine (sumTotal A2 c2 l _ hr2 (by omega) HI.out).mono ?_
  rintro e w' ⟨rfl, rfl⟩
  have hr := h.below hb2
  obtain ⟨p, hp⟩ : ∃ p, p = (tot 0 l).1 := ⟨_, rfl⟩
  obtain ⟨q, hq⟩ : ∃ q, q = (tot 0 l).2 := ⟨_, rfl⟩
  rw [← hp, ← hq]
  clear hys hys1 hys2 ho2 hg2 he hyl hr2
  go_wp2_with fail
  refine (refTotal A c l _ hr (by omega) HI.out).mono ?_
  rintro e w' ⟨rfl, rfl⟩
  rw [← hp, ← hq]
  clear hp hq
  go_wp2_with fail
  refine (sumAnswers _).mono ?_
  rintro e w' ⟨rfl, rfl⟩
  go_wp2_with fail
  go_ret
  exact ⟨rfl, hb2⟩

theorem tot3 (a b c : Int) (ha : I64 a) : tot 0 [a, b, c] = if fits (a + b) then (if fits (a + b + c) then (a + b + c, 0) else (0, 3)) else (0, 3) := by
  have h1 : fits (0 + a) = true := fits_iff.2 (by rw [Int.zero_add]; exact ha)
  rw [Int.zero_add] at h1
  simp only [tot, Int.zero_add, h1, if_true]

set_option maxRecDepth 100000 in
set_option maxHeartbeats 2000000 in
theorem walkSumRing (a b c : Int) (ha : I64 a) (hb : I64 b) (hc : I64 c) (w : World) :
    Calls Try.prog 8 #[.int .i64 a, .int .i64 b, .int .i64 c] w (Yes w) := by
  have C1 := Lib.hid (fun w => sumAdd a b w ha hb)
  have C2 := Lib.hid (fun w => sumAdd b a w hb ha)
  have C3 := Lib.hid (fun w => sumMul a b w ha hb)
  have C4 := Lib.hid (fun w => sumMul b a w hb ha)
  have C5 := Lib.hid (fun (w : World) (g : Nat) (hg : g = w.heap.size) => sumTotal (some ⟨g, 0, none⟩) 3 [a, b, c] (w.alloc (.cells #[.int .i64 a, .int .i64 b, .int .i64 c] 2)) (by subst hg; exact RV.lit w (ncells .i64 [a, b, c]) _ _) (by simp) (by
    intro z hz
    simp only [List.mem_cons, List.not_mem_nil, or_false] at hz
    rcases hz with rfl | rfl | rfl <;> assumption))
  have T := Lib.hid (tot3 a b c ha)
  go_enter Try.func8, Try.ntmps8
  go_wp2_with fail
  refine (C1.out _).mono ?_
  rintro e w' ⟨rfl, rfl⟩
  by_cases hf : fits (a + b) = true
  · have hab := fits_iff.1 hf
    rw [cutV_yes hab.1 hab.2, cutE_yes hab.1 hab.2]
    obtain ⟨s, hs⟩ : ∃ s, s = a + b := ⟨_, rfl⟩
    have hS := Lib.hid hs
    rw [← hs] at hab
    rw [← hs]
    clear hs
    go_wp2_with fail
    refine (C2.out _).mono ?_
    rintro e w' ⟨rfl, rfl⟩
    rw [Int.add_comm b a, ← hS.out, cutV_yes hab.1 hab.2, cutE_yes hab.1 hab.2]
    go_wp2_with fail
    refine (C3.out _).mono ?_
    rintro e w' ⟨rfl, rfl⟩
    obtain ⟨p, hp⟩ : ∃ p, p = cutV (a * b) := ⟨_, rfl⟩
    obtain ⟨q, hq⟩ : ∃ q, q = cutE (a * b) := ⟨_, rfl⟩
    rw [← hp, ← hq]
    go_wp2_with fail
    refine (C4.out _).mono ?_
    rintro e w' ⟨rfl, rfl⟩
    rw [Int.mul_comm b a, ← hp, ← hq]
    clear hp hq
    go_wp2_with fail
    refine (sumAnswers _).mono ?_
    rintro e w' ⟨rfl, rfl⟩
    go_wp2_with fail
    refine (sumSub s b _ hab hb).mono ?_
    rintro e w' ⟨rfl, rfl⟩
    have hsb : s - b = a := by rw [hS.out]; omega
    rw [hsb, cutV_yes ha.1 ha.2, cutE_yes ha.1 ha.2]
    clear hsb
    go_wp2_with fail
    refine (C5.out _ _ rfl).mono ?_
    rintro e w' ⟨rfl, rfl⟩
    have hbw : Below w.heap.size w (w.alloc (.cells #[.int .i64 a, .int .i64 b, .int .i64 c] 2)) := (Below.refl _ _).alloc (Nat.le_refl _) _
    obtain ⟨w1, hw1⟩ : ∃ w1, w1 = w.alloc (.cells #[.int .i64 a, .int .i64 b, .int .i64 c] 2) := ⟨_, rfl⟩
    rw [T.out, if_pos hf, ← hS.out, ← hw1]
    rw [← hw1] at hbw
    clear hw1
    by_cases hg : fits (s + c) = true
    · have hsc := fits_iff.1 hg
      rw [if_pos hg]
      go_wp2_with fail
      refine (sumAdd s c _ hab hc).mono ?_
      rintro e w' ⟨rfl, rfl⟩
      rw [cutV_yes hsc.1 hsc.2, cutE_yes hsc.1 hsc.2]
      go_wp2_with fail
      go_ret
      exact ⟨rfl, hbw⟩
    · rw [if_neg hg]
      go_wp2_with fail
      go_ret
      exact ⟨rfl, hbw⟩
  · have hv : cutV (a + b) = 0 := by simp [cutV, hf]
    have he : cutE (a + b) = 3 := by simp [cutE, hf]
    rw [hv, he]
    go_wp2_with fail
    refine (C2.out _).mono ?_
    rintro e w' ⟨rfl, rfl⟩
    rw [Int.add_comm b a, hv, he]
    clear hv he
    go_wp2_with fail
    refine (C3.out _).mono ?_
    rintro e w' ⟨rfl, rfl⟩
    obtain ⟨p, hp⟩ : ∃ p, p = cutV (a * b) := ⟨_, rfl⟩
    obtain ⟨q, hq⟩ : ∃ q, q = cutE (a * b) := ⟨_, rfl⟩
    rw [← hp, ← hq]
    go_wp2_with fail
    refine (C4.out _).mono ?_
    rintro e w' ⟨rfl, rfl⟩
    rw [Int.mul_comm b a, ← hp, ← hq]
    clear hp hq
    go_wp2_with fail
    refine (sumAnswers _).mono ?_
    rintro e w' ⟨rfl, rfl⟩
    go_wp2_with fail
    refine (C5.out _ _ rfl).mono ?_
    rintro e w' ⟨rfl, rfl⟩
    have hbw : Below w.heap.size w (w.alloc (.cells #[.int .i64 a, .int .i64 b, .int .i64 c] 2)) := (Below.refl _ _).alloc (Nat.le_refl _) _
    rw [T.out, if_neg hf]
    go_wp2_with fail
    go_ret
    exact ⟨rfl, hbw⟩
end Go.Proofs.Ytogcdbodlomgeaa
