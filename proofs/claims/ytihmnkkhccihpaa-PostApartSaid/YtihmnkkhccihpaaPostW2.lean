/- The walk of PostOrder. -/
import Derived.Test.YtihmnkkhccihpaaPostW1
namespace Go.Proofs.Ytihmnkkhccihpaa
open Go.RowKit

abbrev actK : List FK := [.int .i64, .int .i64, .int .i64, .bytes]
theorem act_info : (Try.prog.info? 35).map (fun i => (i.zero, i.size, i.bytes)) = some (some (.agg #[.int .i64 0, .int .i64 0, .int .i64 0, .slice none 0 0]), 4, 48) := by kernel_rfl
theorem act_row {w : World} {r : List Fv} (h : rowOk w actK r) : ∃ (k a b : Int) (D : Option Addr) (c : Nat) (d : List UInt8), r = [.int .i64 k, .int .i64 a, .int .i64 b, .bytes D c d] ∧
    I64 k ∧ I64 a ∧ I64 b ∧ RB w D d ∧ d.length ≤ c ∧ c ≤ 9223372036854775807 ∧ d.length ≤ 140737488351232 := by
  match r, h with
  | [.int k0 n0, .int k1 n1, .int k2 n2, .bytes D c d], h =>
    obtain ⟨⟨rfl, h0⟩, ⟨rfl, h1⟩, ⟨rfl, h2⟩, ⟨h3, h4, h5, h6⟩, _⟩ := h
    exact ⟨n0, n1, n2, D, c, d, rfl, i64_of_wf h0, i64_of_wf h1, i64_of_wf h2, h3, h4, h5, h6⟩
/-- What a call sends. -/
def valOf : List Fv → Val
  | [.int _ _, .int _ a, .int _ b, .bytes _ _ d] => (a, b, d)
  | _ => (0, 0, [])
theorem act_one {w : World} {r : List Fv} (h : rowOk w actK r) : (r.map Fv.val).length = 4 ∧ ∀ v ∈ r.map Fv.val, v.oneCell' = true := by
  obtain ⟨k, a, b, D, c, d, rfl, _⟩ := act_row h
  exact ⟨rfl, by intro v hv; simp [Fv.val] at hv; rcases hv with rfl | rfl | rfl | rfl <;> rfl⟩

section
variable {n : Nat} {w w' : World} {g : Nat} {V : List Val} {C : Int × Int → Bool} {room : Int}
/-- One act's cells, wherever they lie. -/
theorem act_cells {X : Option Addr} {L : List (List Fv)} {b off i : Nat} (hX : RS w (some ⟨b, off, none⟩) 4 (L.map (·.map Fv.val))) {k a c : Int} {D : Option Addr} {cd : Nat} {d : List UInt8} (hi : L[i]? = some [.int .i64 k, .int .i64 a, .int .i64 c, .bytes D cd d]) :
    w.cell? ⟨b, off + i * 4, none⟩ = some (.int .i64 k) ∧ w.cell? ⟨b, off + i * 4 + 1, none⟩ = some (.int .i64 a) ∧ w.cell? ⟨b, off + i * 4 + 2, none⟩ = some (.int .i64 c) ∧ w.cell? ⟨b, off + i * 4 + 3, none⟩ = some (.slice D d.length cd) := by
  have hg := fun (j : Nat) (v : Value) (hj : ([.int .i64 k, .int .i64 a, .int .i64 c, .slice D d.length cd] : List Value)[j]? = some v) => hX.get (i := i) (cs := [.int .i64 k, .int .i64 a, .int .i64 c, .slice D d.length cd]) (by rw [List.getElem?_map, hi]; rfl) j hj
  exact ⟨by simpa using hg 0 _ rfl, hg 1 _ rfl, hg 2 _ rfl, hg 3 _ rfl⟩
end

set_option maxRecDepth 20000 in
set_option maxHeartbeats 8000000 in
theorem walkPostOrder (X : Option Addr) (cx : Nat) (L : List (List Fv)) (w : World) (hX : RS w X 4 (L.map (·.map Fv.val))) (hL : L.length ≤ 9223372036854775807) (hR : ∀ r ∈ L, rowOk w actK r) :
    Calls Try.prog 4 #[.slice X L.length cx] w (Yes w) := by
  have S := Lib.hid postAnswers
  have N := Lib.hid (fun w => postNewI (w := w) 4096 (by decide) (by decide))
  have HX := Lib.hid hX
  have HR := Lib.hid hR
  clear hX hR
  by_cases h500 : 500 < L.length
  · have h5 : (500 : Int) < (L.length : Int) := by omega
    go_enter Try.func4, Try.ntmps4
    go_wp2_with fail
    refine (N.out _).mono ?_
    rintro e w1 ⟨g, rfl, hP1, hb1⟩
    go_wp2_with fail
    refine (S.out _).mono ?_
    rintro e w2 ⟨rfl, hb2⟩
    have hB2 := hb1.trans (hb2.mono hb1.size)
    clear hb1 hb2 hP1
    go_wp2_with fail
    refine (S.out _).mono ?_
    rintro e w3 ⟨rfl, hb3⟩
    have hB3 := hB2.trans (hb3.mono hB2.size)
    clear hb3 hB2
    go_wp2_with fail
    go_ret
    exact ⟨rfl, hB3⟩
  · have h5 : ¬ (500 : Int) < (L.length : Int) := by omega
    have hL5 : L.length ≤ 500 := by omega
    clear hL h500
    go_enter Try.func4, Try.ntmps4
    go_wp2_with fail
    refine (N.out _).mono ?_
    rintro e w1 ⟨g, rfl, hP1, hb1⟩
    go_wp2_with fail
    refine (S.out _).mono ?_
    rintro e w2 ⟨rfl, hb2⟩
    have hB2 := hb1.trans (hb2.mono hb1.size)
    have hP2 := hP1.below hb2
    clear hb1 hb2 hP1
    go_wp2_with fail
    go_loopw [5, 6] (fun s i wr => ∃ (k : Nat) (Q : List (List Fv)) (Sa : Option Addr) (cs : Nat), k ≤ L.length ∧ i = .int .i64 (k : Int) ∧ s = .slice Sa Q.length cs ∧ Q.length ≤ k ∧ (∀ r ∈ Q, rowOk w actK r) ∧ OR wr w.heap.size 35 4 Sa cs (Q.map (·.map Fv.val)) ∧
        PI w.heap.size wr g (Q.map valOf) (fun _ => false) 4096 ∧ Below w.heap.size w wr)
      (fun _ i _ => L.length - (intOf i).toNat)
    case atStart => exact ⟨0, [], none, 0, Nat.zero_le _, rfl, rfl, Nat.zero_le _, by simp, OR.nil _ _ _ _, hP2, hB2⟩
    case round =>
      obtain ⟨k, Q, Sa, cs, hk, rfl, rfl, hQk, hQr, hS, hP, hB⟩ := hrel
      have HQR := Lib.hid hQr
      clear hP2 hB2 hQr
      by_cases hlt : k < L.length
      · obtain ⟨b, off, rfl, _, _⟩ := (HX.out.below hB).row (i := k) (by simpa using hlt)
        have hrowk := HR.out L[k] (List.getElem_mem hlt)
        have HRK := Lib.hid hrowk
        obtain ⟨ak, aa, ab, D, c, d, hrow, hik, hia, hib, hD, hdc, hc9, hd⟩ := act_row hrowk
        have HC : Hid (∀ w', Below w.heap.size w w' → w'.cell? ⟨b, off + k * 4, none⟩ = some (.int .i64 ak) ∧ w'.cell? ⟨b, off + k * 4 + 1, none⟩ = some (.int .i64 aa) ∧ w'.cell? ⟨b, off + k * 4 + 2, none⟩ = some (.int .i64 ab) ∧ w'.cell? ⟨b, off + k * 4 + 3, none⟩ = some (.slice D d.length c)) :=
          Lib.hid fun w' hw' => act_cells (X := none) (HX.out.below hw') (by rw [List.getElem?_eq_getElem hlt, hrow])
        have HV : Hid (valOf L[k] = (aa, ab, d)) := Lib.hid (by rw [hrow]; rfl)
        have HROW := Lib.hid hrow
        have HD := Lib.hid hD
        obtain ⟨c0, c1, c2, c3⟩ := HC.out wr hB
        clear hD hrow hrowk hik hia hib
        go_wp2_with fail
        refine wp_region_planE_gen (by kernel_rfl) [(0, none), (1, none), (2, none), (3, none), (4, none), (5, none), (6, none), (7, none), (8, none), (9, none), (10, none), (12, none), (13, none), (14, none), (15, none), (16, none), (11, some []), (17, some [16]), (18, some [0, 5, 10]), (19, none)] (by kernel_rfl) (by kernel_rfl) (by decide) ?_
        intro wq hwq
        have hbq : Below wr.heap.size wr wq := by rw [hwq]; exact (Below.refl _ _).drew
        have hBq := hB.trans (hbq.mono hB.size)
        have hPq := hP.below hbq
        have hSq := hS.below hbq
        clear c0 c1 c2 c3 hwq hbq hP hS hB
        obtain ⟨c0, c1, c2, c3⟩ := HC.out wq hBq
        iterate 5 (refine planE_pure (v := ?_) rfl (by rfl) (fun w' => ?_) ?_; rotate_left; (focus (simp only [List.getElem_toArray, List.getElem_cons_succ, List.getElem_cons_zero]; go_simp; first | with_reducible rfl | (simp (disch := omega) only [if_pos, if_neg, Result.andThen_ok]; try with_reducible rfl) | skip)); try simp only [List.getElem_toArray, List.getElem_cons_succ, List.getElem_cons_zero, Act.put, List.setIfInBounds_toArray, List.set_cons_zero, List.set_cons_succ])
        refine planE_cells (v := ?_) [(⟨b, off + k * 4 + 1, none⟩, .int .i64 aa)] (by simp; and_intros <;> assumption) rfl (by rfl) (fun w' hw' => ?_) ?_; rotate_left; (focus (simp only [List.forall_mem_cons, List.not_mem_nil, false_imp_iff, implies_true, and_true] at hw'; simp only [List.getElem_toArray, List.getElem_cons_succ, List.getElem_cons_zero]; go_simp; first | with_reducible rfl | (simp (disch := omega) only [if_pos, if_neg, Result.andThen_ok]; try with_reducible rfl) | skip)); try simp only [List.getElem_toArray, List.getElem_cons_succ, List.getElem_cons_zero, Act.put, List.setIfInBounds_toArray, List.set_cons_zero, List.set_cons_succ]
        iterate 4 (refine planE_pure (v := ?_) rfl (by rfl) (fun w' => ?_) ?_; rotate_left; (focus (simp only [List.getElem_toArray, List.getElem_cons_succ, List.getElem_cons_zero]; go_simp; first | with_reducible rfl | (simp (disch := omega) only [if_pos, if_neg, Result.andThen_ok]; try with_reducible rfl) | skip)); try simp only [List.getElem_toArray, List.getElem_cons_succ, List.getElem_cons_zero, Act.put, List.setIfInBounds_toArray, List.set_cons_zero, List.set_cons_succ])
        refine planE_cells (v := ?_) [(⟨b, off + k * 4 + 2, none⟩, .int .i64 ab)] (by simp; and_intros <;> assumption) rfl (by rfl) (fun w' hw' => ?_) ?_; rotate_left; (focus (simp only [List.forall_mem_cons, List.not_mem_nil, false_imp_iff, implies_true, and_true] at hw'; simp only [List.getElem_toArray, List.getElem_cons_succ, List.getElem_cons_zero]; go_simp; first | with_reducible rfl | (simp (disch := omega) only [if_pos, if_neg, Result.andThen_ok]; try with_reducible rfl) | skip)); try simp only [List.getElem_toArray, List.getElem_cons_succ, List.getElem_cons_zero, Act.put, List.setIfInBounds_toArray, List.set_cons_zero, List.set_cons_succ]
        iterate 4 (refine planE_pure (v := ?_) rfl (by rfl) (fun w' => ?_) ?_; rotate_left; (focus (simp only [List.getElem_toArray, List.getElem_cons_succ, List.getElem_cons_zero]; go_simp; first | with_reducible rfl | (simp (disch := omega) only [if_pos, if_neg, Result.andThen_ok]; try with_reducible rfl) | skip)); try simp only [List.getElem_toArray, List.getElem_cons_succ, List.getElem_cons_zero, Act.put, List.setIfInBounds_toArray, List.set_cons_zero, List.set_cons_succ])
        refine planE_cells (v := ?_) [(⟨b, off + k * 4 + 3, none⟩, .slice D d.length c)] (by simp; and_intros <;> assumption) rfl (by rfl) (fun w' hw' => ?_) ?_; rotate_left; (focus (simp only [List.forall_mem_cons, List.not_mem_nil, false_imp_iff, implies_true, and_true] at hw'; simp only [List.getElem_toArray, List.getElem_cons_succ, List.getElem_cons_zero]; go_simp; first | with_reducible rfl | (simp (disch := omega) only [if_pos, if_neg, Result.andThen_ok]; try with_reducible rfl) | skip)); try simp only [List.getElem_toArray, List.getElem_cons_succ, List.getElem_cons_zero, Act.put, List.setIfInBounds_toArray, List.set_cons_zero, List.set_cons_succ]
        refine planE_eff rfl (by rfl) (fun K hK => ?_)
        go_simp
        have hb2 : Below wq.heap.size wq (wq.alloc (.cells #[] 5)) := (Below.refl _ _).alloc (Nat.le_refl _) _
        have hO2 := OB.made0 wq hBq.size
        have hB2 := hBq.trans (hb2.mono hBq.size)
        have hP2 := hPq.below hb2
        have hS2 := hSq.below hb2
        clear c0 c1 c2 c3 hb2
        obtain ⟨c0, c1, c2, c3⟩ := HC.out _ hB2
        refine hK _ _ (by simp [owed, left] <;> (and_intros <;> first | trivial | assumption)) ?_
        clear hK K
        try simp only [List.getElem_toArray, List.getElem_cons_succ, List.getElem_cons_zero, Act.put, List.setIfInBounds_toArray, List.set_cons_zero, List.set_cons_succ]
        refine planE_eff rfl (by rfl) (fun K hK => ?_)
        refine op_appendB _ (.tmp 46) (.tmp 51) (by rfl) w.heap.size _ D 0 c [] d (by rfl) (by rfl) hO2 (HD.out.below hB2) (by simp; omega) hB2.size ?_
        intro d' D' c' w3 hd3 hd1 hd2 ho3 hg3
        have hb3 : Below wq.heap.size wq w3 := ((Below.refl _ _).alloc (Nat.le_refl _) _).grown hg3 (by simp) (by simp [Value.ownBlock])
        have hB3 := hBq.trans (hb3.mono hBq.size)
        have hP3 := hPq.below hb3
        have hS3 := hSq.below hb3
        have hd' : Hid (d' = d) := Lib.hid (by simpa using hd3.out)
        clear c0 c1 c2 c3 hO2 hB2 hP2 hS2 hd3 hg3 hb3 hBq hPq hSq
        obtain ⟨c0, c1, c2, c3⟩ := HC.out _ hB3
        refine hK _ _ (by simp [owed, left] <;> (and_intros <;> first | trivial | assumption)) ?_
        clear hK K
        try simp only [List.getElem_toArray, List.getElem_cons_succ, List.getElem_cons_zero, Act.put, List.setIfInBounds_toArray, List.set_cons_zero, List.set_cons_succ]
        refine planE_eff rfl (by rfl) (fun K hK => ?_)
        go_simp
        refine (postSendI aa ab D' c' d' hP3 hB3.size ho3.rb).mono ?_
        rintro e w4 ⟨rfl, hP4, hK4⟩
        rw [hd'.out] at hP4 ⊢
        have hB4 := hB3.trans hK4.below
        have hS4 := hS3.tm hK4.tm (by simp [badP])
        clear c0 c1 c2 c3 hP3 hB3 hS3 hK4 ho3
        obtain ⟨c0, c1, c2, c3⟩ := HC.out _ hB4
        refine hK _ _ (by simp [owed, left] <;> (and_intros <;> first | trivial | assumption)) ?_
        clear hK K
        try simp only [List.getElem_toArray, List.getElem_cons_succ, List.getElem_cons_zero, Act.put, List.setIfInBounds_toArray, List.set_cons_zero, List.set_cons_succ]
        iterate 1 (refine planE_pure (v := ?_) rfl (by rfl) (fun w' => ?_) ?_; rotate_left; (focus (simp only [List.getElem_toArray, List.getElem_cons_succ, List.getElem_cons_zero]; go_simp; first | with_reducible rfl | (simp (disch := omega) only [if_pos, if_neg, Result.andThen_ok]; try with_reducible rfl) | skip)); try simp only [List.getElem_toArray, List.getElem_cons_succ, List.getElem_cons_zero, Act.put, List.setIfInBounds_toArray, List.set_cons_zero, List.set_cons_succ])
        refine planE_end ?_
        clear hd1 hd2
        have hr := sendErr_range (Q.map valOf) (fun _ => false) 4096 aa ab d
        by_cases he : sendErr (Q.map valOf) (fun _ => false) 4096 aa ab d = 0
        · rw [sendV_ok he] at hP4
          rw [he]
          clear hr he
          obtain ⟨i0, hi0, hz0, hz1, hz2⟩ := info_parts act_info
          have hsz4 := hB4.size
          go_wp2_with (at_builtin; refine wp_appendS _ rfl (.tmp 56) (.tmp 61) 32 35 rfl Try.underlying32 hi0 hz0 hz1 hz2 rfl (by decide) w.heap.size Sa _ cs 1 (Q.map (·.map Fv.val)) [L[k].map Fv.val] (by rw [List.length_map]; rfl) rfl (hS4.below ((Below.refl _ _).alloc (Nat.le_refl _) _)) (by rw [HROW.out]; exact RS.lit (Blk.new w4 #[.int .i64 ak, .int .i64 aa, .int .i64 ab, .slice D d.length c] 35)) (by simpa using (act_one HRK.out).1) (by simpa using (act_one HRK.out).2) (by simp; omega) (by simp; omega) (by simp; omega) ?_; intro ys Sb cs' w5 hys hy1 hy2 hS5 hg5 _)
          have hal : Below w4.heap.size w4 (w4.alloc (.cells #[.int .i64 ak, .int .i64 aa, .int .i64 ab, .slice D d.length c] 35)) := (Below.refl _ _).alloc (Nat.le_refl _) _
          have hB5 := (hB4.trans (hal.mono hB4.size)).grown hg5 (hB4.trans (hal.mono hB4.size)).size (fun b hb => (hS4.blk_lt b hb).1)
          have hm5 : Mods (fun b => Sa.map (·.block) = some b) w4 w5 := (Mods.of_below hal).then (.of_grown hg5 fun b hb => hb)
          have htm5 : TM (fun o => ∃ cs fr, o = .cells cs 35 fr) w4 w5 := TM.mods hm5 (fun b o ho hb => by
            obtain ⟨cs, hc⟩ := hS4.blk b hb
            rw [hc] at ho
            injection ho with ho
            exact ⟨_, _, ho.symm⟩)
          have hP5 : PI w.heap.size w5 g ((Q ++ [L[k]]).map valOf) (fun _ => false) 4096 := by
            rw [List.map_append, show List.map valOf [L[k]] = [(aa, ab, d)] from by simp [HV.out]]
            exact hP4.tm2 htm5 (by rintro cs ⟨_, _, e⟩; cases e) (by rintro cs ⟨_, _, e⟩; cases e) (by rintro cs ⟨_, _, e⟩; cases e) (by rintro a b ⟨_, _, e⟩; cases e)
          have hS5' : OR w5 w.heap.size 35 4 Sb cs' ((Q ++ [L[k]]).map (·.map Fv.val)) := by
            rw [List.map_append]
            have e := hys.out
            rw [e] at hS5
            exact hS5
          have hyl : ys.length = (Q ++ [L[k]]).length := by rw [hys.out]; simp
          have HQ5 : Hid (∀ r ∈ Q ++ [L[k]], rowOk w actK r) := Lib.hid fun r hr => by
            rcases List.mem_append.1 hr with hr | hr
            · exact HQR.out r hr
            · rw [List.mem_singleton] at hr
              rw [hr]; exact HRK.out
          have hql : (Q ++ [L[k]]).length ≤ k + 1 := by simp; omega
          have HYL := Lib.hid hyl
          clear hP4 hB4 hS4 hal hm5 htm5 hS5 hg5 hys hyl c0 c1 c2 c3 hy1 hy2
          rw [HYL.out]
          go_wp2_with fail
          go_roundw
          case rel => exact ⟨k + 1, Q ++ [L[k]], Sb, cs', by omega, by go_num, rfl, hql, HQ5.out, hS5', hP5, hB5⟩
          case measure => simp [intOf]; omega
        · have he' : (sendErr (Q.map valOf) (fun _ => false) 4096 aa ab d == 0) = false := by simpa using he
          rw [sendV, if_neg he] at hP4
          have HE := Lib.hid he
          clear he
          generalize sendErr (Q.map valOf) (fun _ => false) 4096 aa ab d = er at *
          clear c0 c1 c2 c3
          go_wp2_with fail
          go_roundw
          case rel => exact ⟨k + 1, Q, Sa, cs, by omega, by go_num, rfl, by omega, HQR.out, hS4, hP4, hB4⟩
          case measure => simp [intOf]; omega
      · go_wp2_with fail
        clear hlt
        go_loopw [8] (fun i wr => ∃ j : Nat, j ≤ Q.length ∧ i = .int .i64 (j : Int) ∧ OR wr w.heap.size 35 4 Sa cs (Q.map (·.map Fv.val)) ∧ PI w.heap.size wr g ((Q.map valOf).drop j) (fun _ => false) 4096 ∧ Below w.heap.size w wr)
          (fun i _ => Q.length - (intOf i).toNat)
        case atStart => exact ⟨0, Nat.zero_le _, rfl, hS, hP, hB⟩
        case round =>
          obtain ⟨j, hj, rfl, hSj, hPj, hBj⟩ := hrel
          clear hS hP hB
          by_cases hlt : j < Q.length
          · have hrowj := HQR.out Q[j] (List.getElem_mem hlt)
            obtain ⟨ak, aa, ab, D, c, d, hrow, hik, hia, hib, hD, hdc, hc9, hd⟩ := act_row hrowj
            have hvj : (Q.map valOf)[j]? = some (aa, ab, d) := by rw [List.getElem?_map, List.getElem?_eq_getElem hlt, hrow]; rfl
            have hat : atV ((Q.map valOf).drop j) 0 = ((aa, ab, d), 0) := by
              have h0 : 0 < ((Q.map valOf).drop j).length := by simp; omega
              rw [atV, if_pos ⟨Int.le_refl _, by omega⟩]
              rw [List.getD_eq_getElem?_getD, show (0 : Int).toNat = 0 from rfl, List.getElem?_drop, Nat.add_zero, hvj]
              rfl
            have T := postTakeI 0 hPj hBj.size (by omega)
            unfold TakeI at T
            rw [hat] at T
            simp only [if_true] at T
            rw [show ((Q.map valOf).drop j).eraseIdx (0 : Int).toNat = (Q.map valOf).drop (j + 1) from by rw [show (0 : Int).toNat = 0 from rfl, List.eraseIdx_zero, List.tail_drop]] at T
            have HT := Lib.hid T
            obtain ⟨b, rfl⟩ := hSj.head (by simpa using (show 0 < Q.length by omega))
            have HC : Hid (∀ w', OR w' w.heap.size 35 4 (some ⟨b, 0, none⟩) cs (Q.map (·.map Fv.val)) → w'.cell? ⟨b, j * 4, none⟩ = some (.int .i64 ak) ∧ w'.cell? ⟨b, j * 4 + 1, none⟩ = some (.int .i64 aa) ∧ w'.cell? ⟨b, j * 4 + 2, none⟩ = some (.int .i64 ab) ∧ w'.cell? ⟨b, j * 4 + 3, none⟩ = some (.slice D d.length c)) :=
              Lib.hid fun w' hw' => by
                have := act_cells (X := none) hw'.rs (i := j) (by rw [List.getElem?_eq_getElem hlt, hrow])
                simpa using this
            have HD := Lib.hid hD
            clear hrowj hrow hik hia hib hD hvj hat T hPj
            go_wp2_with fail
            refine HT.out.mono ?_
            rintro e w2 ⟨D', c', d', rfl, hd', hd2, ho2, hP2, hK2⟩
            have hS2 := hSj.tm hK2.tm (by simp [badP])
            have hB2 := hBj.trans hK2.below
            obtain ⟨c0, c1, c2, c3⟩ := HC.out w2 hS2
            have hc1 : ∀ a, (convert 33 9 (.slice D' d'.length c')).run Try.prog (w2.drewN a) = .ok (.string ⟨d.toArray⟩) (w2.drewN a) := fun a => by rw [convB c' (ho2.rb.drewN a), hd'.out]
            have hc2 : ∀ a, (convert 33 9 (.slice D d.length c)).run Try.prog (w2.drewN a) = .ok (.string ⟨d.toArray⟩) (w2.drewN a) := fun a => convB c ((HD.out.below hB2).drewN a)
            clear hSj hBj hK2 ho2
            go_wp2_with fail
            go_quiet (fail)
            clear hc1 hc2 c0 c1 c2 c3
            go_wp2_with fail
            go_roundw
            case rel => exact ⟨j + 1, by omega, by go_num, hS2.below (below_drewN (Below.refl _ _) _), hP2.below (below_drewN (Below.refl _ _) _), below_drewN hB2 _⟩
            case measure => simp [intOf]; omega
          · obtain rfl : j = Q.length := by omega
            rw [List.drop_of_length_le (by rw [List.length_map]; omega)] at hPj
            have HP := Lib.hid hPj
            clear hPj
            go_wp2_with fail
            refine (postLenI HP.out).mono ?_
            rintro e w2 ⟨rfl, rfl⟩
            go_wp2_with fail
            go_ret
            exact ⟨rfl, hBj⟩
end Go.Proofs.Ytihmnkkhccihpaa
