/- The walk of the law SnapWhole. -/
import Derived.Test.YtogcdbodlomgeaaWSnapB
namespace Go.Proofs.Ytogcdbodlomgeaa
open Go.RowKit

/-- The joiner on the way: nothing yet, or the beginning up to m. -/
def Way (i t : Int) (l : List UInt8) (m : Nat) (ji jt : Int) (h : List UInt8) : Prop := (m = 0 ∧ ji = 0 ∧ jt = 0 ∧ h = []) ∨ (ji = i ∧ jt = t ∧ h = l.take m)
theorem Way.len {i t : Int} {l : List UInt8} {m : Nat} {ji jt : Int} {h : List UInt8} (w : Way i t l m ji jt h) : h.length ≤ l.length := by
  rcases w with ⟨_, _, _, rfl⟩ | ⟨_, _, rfl⟩
  · simp
  · rw [List.length_take]; omega
theorem chunk_len (l : List UInt8) (m : Nat) : (chunk l m).length = min 256 (l.length - m) := by simp [chunk]
theorem take_chunk (l : List UInt8) (m : Nat) : l.take m ++ chunk l m = l.take (m + 256) := by
  rw [chunk, List.take_add]
theorem way_state {i t : Int} (hi : i ≠ 0) {l : List UInt8} {m : Nat} {ji jt : Int} {h : List UInt8} (w : Way i t l m ji jt h) (hm : m ≤ l.length) :
    ¬ ((i, t) ≠ (ji, jt) ∧ (m : Int) ≠ 0) ∧ (if (i, t) ≠ (ji, jt) then [] else h) = l.take m := by
  rcases w with ⟨rfl, rfl, rfl, rfl⟩ | ⟨rfl, rfl, rfl⟩
  · refine ⟨by simp, ?_⟩
    split <;> simp
  · exact ⟨by simp, by simp⟩
theorem addF_mid {i t : Int} (hi : i ≠ 0) {l : List UInt8} {m : Nat} {ji jt : Int} {h : List UInt8} (w : Way i t l m ji jt h) (hm : m + 256 < l.length) (hl : l.length ≤ 32768) :
    addF ji jt h i t m false (chunk l m) = ⟨(m : Int) + 256, [], false, 0, i, t, l.take (m + 256)⟩ := by
  obtain ⟨h1, h2⟩ := way_state hi w (by omega)
  have hc := chunk_len l m
  unfold addF
  rw [if_neg (by omega), if_neg h1, h2]
  dsimp only
  have hlt : (l.take m).length = m := by rw [List.length_take]; omega
  have hlt2 : (l.take (m + 256)).length = m + 256 := by rw [List.length_take]; omega
  rw [Int.toNat_natCast, List.take_take, Nat.min_self, take_chunk, hlt2, hlt]
  simp only [Bool.false_eq_true, if_false]
  rw [if_neg (by omega), if_neg (by omega), if_neg (by omega)]
  simp
theorem addF_again {i t : Int} (hi : i ≠ 0) {l : List UInt8} {m : Nat} (hm : m + 256 < l.length) :
    addF i t (l.take (m + 256)) i t m false (chunk l m) = ⟨(m : Int) + 256, [], false, 0, i, t, l.take (m + 256)⟩ := by
  have hc := chunk_len l m
  unfold addF
  have hlt2 : (l.take (m + 256)).length = m + 256 := by rw [List.length_take]; omega
  rw [if_neg (by omega), if_neg (by simp)]
  simp only [ne_eq, not_true_eq_false, if_false]
  rw [hlt2, if_neg (by omega), if_pos ⟨by omega, trivial⟩]
  simp
theorem addF_last {i t : Int} (hi : i ≠ 0) {l : List UInt8} {m : Nat} {ji jt : Int} {h : List UInt8} (w : Way i t l m ji jt h) (hm : m ≤ l.length) (hm2 : l.length ≤ m + 256) (hl : l.length ≤ 32768) :
    addF ji jt h i t m true (chunk l m) = ⟨(l.length : Int), l, true, 0, 0, 0, []⟩ := by
  obtain ⟨h1, h2⟩ := way_state hi w (by omega)
  have hc := chunk_len l m
  unfold addF
  rw [if_neg (by omega), if_neg h1, h2]
  dsimp only
  have hlt : (l.take m).length = m := by rw [List.length_take]; omega
  have hlt2 : l.take (m + 256) = l := List.take_of_length_le (by omega)
  rw [Int.toNat_natCast, List.take_take, Nat.min_self, take_chunk, hlt2, hlt]
  simp only [if_true]
  rw [if_neg (by omega), if_neg (by simp), if_neg (by omega)]

set_option maxRecDepth 20000 in
set_option maxHeartbeats 8000000 in
theorem walkSnapWhole (i t : Int) (D : Option Addr) (c : Nat) (l : List UInt8) (X : Option Addr) (cx : Nat) (bs : List Bool) (w : World) (_hi : 0 ≤ i ∧ i ≤ 18446744073709551615) (_ht : 0 ≤ t ∧ t ≤ 18446744073709551615) (hD : RB w D l) (hl : l.length ≤ 140737488355328) (hX : RV w X (bs.map Value.bool)) (hbl : bs.length ≤ 9223372036854775807) :
    Calls Try.prog 12 #[.int .u64 i, .int .u64 t, .slice D l.length c, .slice X bs.length cx] w (Yes w) := by
  clear _hi _ht
  have S := Lib.hid snapAnswers
  have HD := Lib.hid hD
  have HX := Lib.hid hX
  clear hD hX
  by_cases hbad : i = 0 ∨ 32768 < l.length
  · have fin : ∀ (k : (i == 0) = true ∨ (i == 0) = false ∧ (32768 : Int) < (l.length : Int)), Calls Try.prog 12 #[.int .u64 i, .int .u64 t, .slice D l.length c, .slice X bs.length cx] w (Yes w) := by
      intro k
      rcases k with k1 | ⟨k1, k2⟩
      all_goals
        go_enter Try.func12, Try.ntmps12
        go_wp2_with fail
        refine (S.out _).mono ?_
        rintro e w1 ⟨rfl, hb1⟩
        go_wp2_with fail
        refine (S.out _).mono ?_
        rintro e w2 ⟨rfl, hb2⟩
        go_wp2_with fail
        go_ret
        exact ⟨rfl, hb1.trans (hb2.mono hb1.size)⟩
    apply fin
    by_cases k1 : i = 0
    · left; simpa using k1
    · right
      refine ⟨by simpa using k1, by omega⟩
  · have hi0 : i ≠ 0 := fun e => hbad (.inl e)
    have hl2 : l.length ≤ 32768 := by omega
    have k1 : (i == 0) = false := by simpa using hi0
    have k2 : ¬ (32768 : Int) < (l.length : Int) := by omega
    have HI := Lib.hid hi0
    clear hbad hi0 hl
    go_enter Try.func12, Try.ntmps12
    go_wp2_with fail
    refine (S.out _).mono ?_
    rintro e w1 ⟨rfl, hb1⟩
    go_wp2_with fail
    refine (joinNew _).mono ?_
    rintro e w2 ⟨rfl, hw2⟩
    have hJ2 : Jn w2 (w1.heap.size + 1) w1.heap.size 67 0 0 [] := by rw [hw2]; exact ⟨none, 0, Blk.new w1 _ _, OB.nil _ _⟩
    have hb2 : Below w.heap.size w w2 := by rw [hw2]; exact hb1.alloc hb1.size _
    have hs2 : w1.heap.size + 1 ≤ w2.heap.size := by rw [hw2]; simp
    obtain ⟨g, hg⟩ : ∃ g, g = w1.heap.size := ⟨_, rfl⟩
    have hwg : w.heap.size ≤ g := by rw [hg]; exact hb1.size
    rw [← hg] at hJ2 hs2
    clear hw2
    go_wp2_with fail
    rw [← hg]
    clear hg hb1
    go_loopw [10, 11] (fun o kv wr => ∃ (m k : Nat) (ji jt : Int) (h : List UInt8), m ≤ l.length ∧ k ≤ m ∧ o = .int .i64 (m : Int) ∧ kv = .int .i64 (k : Int) ∧ Hid (Way i t l m ji jt h) ∧ Jn wr (g + 1) g 67 ji jt h ∧ Below w.heap.size w wr ∧ g + 1 ≤ wr.heap.size)
      (fun o _ _ => l.length - (intOf o).toNat)
    case atStart => exact ⟨0, 0, 0, 0, [], Nat.zero_le _, Nat.le_refl _, rfl, rfl, Lib.hid (.inl ⟨rfl, rfl, rfl, rfl⟩), hJ2, hb2, hs2⟩
    case round =>
      obtain ⟨m, k, ji, jt, h, hm, hkm, rfl, rfl, hway, hJ, hB, hs⟩ := hrel
      clear hJ2 hb2 hs2
      have hml : (m : Int) ≤ (l.length : Int) := by omega
      go_wp2_with (at_builtin; refine wp_appendB _ rfl (.tmp 45) (.tmp 46) rfl wr.heap.size _ D 0 c [] l rfl rfl (OB.made0 _ (Nat.le_refl _)) ((HD.out.below hB).alloc _) (by simp; omega) (by simp) ?_; intro p3 A3 c3 w3 hp3 hp31 hp32 ho3 hg3)
      have hb3 : Below wr.heap.size wr w3 := ((Below.refl _ _).alloc (Nat.le_refl _) _).grown hg3 (by simp) (by simp [Value.ownBlock])
      simp only [List.length_nil, Nat.zero_add] at hp31 hp32
      have hp3' := hp3.out
      rw [List.nil_append] at hp3'
      refine (snapCut i t A3 c3 p3 m _ ho3.rb ho3.cap (by omega) (by omega)).mono ?_
      rintro e w4 ⟨p, P, d, hp, hp1, rfl, hop, hb4⟩
      have hpl := hp.out
      rw [hp3'] at hpl ⊢
      have HP := Lib.hid hpl
      have hpc := chunk_len l m
      rw [← hpl] at hpc ⊢
      have hb24 : Below wr.heap.size wr w4 := hb3.trans (hb4.mono hb3.size)
      have hJ4 := hJ.below hb24
      have hB4 := hB.trans (hb24.mono hB.size)
      have hs4 := Nat.le_trans hs hb24.size
      have hoq := hop.base_le (base' := g + 1) (by have := hb3.size; omega)
      clear hp3 hp3' hp31 hp32 ho3 hg3 hb3 hb4 hp hpl hop hb24 hJ hB hs
      unfold PieceE
      by_cases hlast : m + 256 < l.length
      · have hpl256 : p.length = 256 := by omega
        have hdec : decide (m + p.length = l.length) = false := by simp; omega
        rw [hdec]
        have HL := Lib.hid hpl256
        clear hdec hpc hpl256
        have hP5 := Blk.new w4 #[.int .u64 i, .int .u64 t, .int .i64 (m : Int), .bool false, .slice P p.length d] 25
        have hb5 : Below w4.heap.size w4 (w4.alloc (.cells #[.int .u64 i, .int .u64 t, .int .i64 (m : Int), .bool false, .slice P p.length d] 25)) := (Below.refl _ _).alloc (Nat.le_refl _) _
        have hB5 := hB4.trans (hb5.mono hB4.size)
        have hJ5 := hJ4.below hb5
        have hs5 := Nat.le_trans hs4 hb5.size
        have hQ5 := hoq.below hb5
        obtain ⟨u, hu⟩ : ∃ u, u = w4.heap.size := ⟨_, rfl⟩
        have hug : g < u := by omega
        rw [← hu] at hP5
        have HU := Lib.hid hu
        clear hb5 hB4 hJ4 hs4 hoq hu
        by_cases htw : k < bs.length ∧ bs[k]? = some true
        · obtain ⟨htw1, htw2⟩ := htw
          have ck : Hid (∀ w', Below w.heap.size w w' → ∃ bb off, X = some ⟨bb, off, none⟩ ∧ w'.cell? ⟨bb, off + k, none⟩ = some (.bool true)) := Lib.hid (fun w' hw' => by
            obtain ⟨bb, off, e, _, hc⟩ := (HX.out.below hw').cell (j := k) (by simpa using htw1)
            refine ⟨bb, off, e, ?_⟩
            rw [hc, List.getElem_map]
            rw [List.getElem?_eq_getElem htw1] at htw2
            injection htw2 with htw2
            rw [htw2])
          obtain ⟨bb, off, rfl, hck⟩ := ck.out _ hB5
          have hkb : k < bs.length := htw1
          clear htw2 ck
          go_wp2_with fail
          clear hck
          rw [← HU.out]
          generalize w4.alloc (.cells #[.int .u64 i, .int .u64 t, .int .i64 (m : Int), .bool false, .slice P p.length d] 25) = w5 at *
          have x0 := hP5.cell 0 rfl
          have x1 := hP5.cell 1 rfl
          have x2 := hP5.cell 2 rfl
          have x3 := hP5.cell 3 rfl
          have x4 := hP5.cell 4 rfl
          refine (joinAdd g ji jt h i t (m : Int) false P d p (g + 1) w5 hJ5 (Nat.le_trans hway.out.len hl2) (by omega) hs5 hQ5.rb (hQ5.far (.inl (by omega))) (by omega) (by omega) (by omega)).mono ?_
          rintro e w6 ⟨n, wl, dn, er, ji', jt', h', Wx, cw, hR, hwl, hh', rfl, hJ6, hW6, hg6⟩
          have hR' := hR.out
          rw [HP.out, addF_mid HI.out hway.out hlast hl2] at hR'
          injection hR' with r1 r2 r3 r4 r5 r6 r7
          replace r1 := r1.symm
          replace r2 := r2.symm
          replace r3 := r3.symm
          replace r4 := r4.symm
          replace r5 := r5.symm
          replace r6 := r6.symm
          replace r7 := r7.symm
          subst r1 r2 r3 r4 r5 r6 r7
          have hB6 := hB5.grown hg6 hB5.size (fun k hk => by injection hk with hk; omega)
          have hP6 := hP5.grown hg6 (by intro e; injection e with e; omega)
          have hQ6 : OB w6 (g + 1) P d p := hQ5.grown hg6 (.inl (hQ5.blk_ne (by omega)))
          have hs6 := Nat.le_trans hs5 hg6.size
          clear x0 x1 x2 x3 x4 hR hg6 hB5 hP5 hQ5 hs5 hJ5
          have x0 := hP6.cell 0 rfl
          have x1 := hP6.cell 1 rfl
          have x2 := hP6.cell 2 rfl
          have x3 := hP6.cell 3 rfl
          have x4 := hP6.cell 4 rfl
          have q3 : (p.length : Int) = 256 := by have := HL.out; omega
          go_wp2_with fail
          clear q3
          refine (joinAdd g i t (l.take (m + 256)) i t (m : Int) false P d p (g + 1) w6 hJ6 (by rw [List.length_take]; omega) (by omega) hs6 hQ6.rb (hQ6.far (.inl (by omega))) (by omega) (by omega) (by omega)).mono ?_
          rintro e w7 ⟨n, wl, dn, er, ji', jt', h', Wx, cw, hR, hwl, hh', rfl, hJ7, hW7, hg7⟩
          have hR' := hR.out
          rw [HP.out, addF_again HI.out hlast] at hR'
          injection hR' with r1 r2 r3 r4 r5 r6 r7
          replace r1 := r1.symm
          replace r2 := r2.symm
          replace r3 := r3.symm
          replace r4 := r4.symm
          replace r5 := r5.symm
          replace r6 := r6.symm
          replace r7 := r7.symm
          subst r1 r2 r3 r4 r5 r6 r7
          have hB7 := hB6.grown hg7 hB6.size (fun k hk => by injection hk with hk; omega)
          have hP7 := hP6.grown hg7 (by intro e; injection e with e; omega)
          have hQ7 : OB w7 (g + 1) P d p := hQ6.grown hg7 (.inl (hQ6.blk_ne (by omega)))
          have hs7 := Nat.le_trans hs6 hg7.size
          clear x0 x1 x2 x3 x4 hR hg7 hB6 hP6 hQ6 hs6 hJ6
          have x0 := hP7.cell 0 rfl
          have x1 := hP7.cell 1 rfl
          have x2 := hP7.cell 2 rfl
          have x3 := hP7.cell 3 rfl
          have x4 := hP7.cell 4 rfl
          have q3 : (p.length : Int) = 256 := by have := HL.out; omega
          go_wp2_with fail
          clear q3
          go_roundw
          case rel => exact ⟨m + 256, k + 1, i, t, l.take (m + 256), by omega, by omega, by go_num, by go_num, Lib.hid (.inr ⟨rfl, rfl, rfl⟩), hJ7, hB7, hs7⟩
          case measure => simp [intOf]; omega
        · by_cases hkb : k < bs.length
          · have ck : Hid (∀ w', Below w.heap.size w w' → ∃ bb off, X = some ⟨bb, off, none⟩ ∧ w'.cell? ⟨bb, off + k, none⟩ = some (.bool false)) := Lib.hid (fun w' hw' => by
              obtain ⟨bb, off, e, _, hc⟩ := (HX.out.below hw').cell (j := k) (by simpa using hkb)
              refine ⟨bb, off, e, ?_⟩
              rw [hc, List.getElem_map]
              have : bs[k] = false := by
                cases hbk : bs[k] with
                | false => rfl
                | true => exact absurd ⟨hkb, by rw [List.getElem?_eq_getElem hkb, hbk]⟩ htw
              rw [this])
            obtain ⟨bb, off, rfl, hck⟩ := ck.out _ hB5
            clear ck htw
            go_wp2_with fail
            clear hck
            rw [← HU.out]
            generalize w4.alloc (.cells #[.int .u64 i, .int .u64 t, .int .i64 (m : Int), .bool false, .slice P p.length d] 25) = w5 at *
            have x0 := hP5.cell 0 rfl
            have x1 := hP5.cell 1 rfl
            have x2 := hP5.cell 2 rfl
            have x3 := hP5.cell 3 rfl
            have x4 := hP5.cell 4 rfl
            refine (joinAdd g ji jt h i t (m : Int) false P d p (g + 1) w5 hJ5 (Nat.le_trans hway.out.len hl2) (by omega) hs5 hQ5.rb (hQ5.far (.inl (by omega))) (by omega) (by omega) (by omega)).mono ?_
            rintro e w6 ⟨n, wl, dn, er, ji', jt', h', Wx, cw, hR, hwl, hh', rfl, hJ6, hW6, hg6⟩
            have hR' := hR.out
            rw [HP.out, addF_mid HI.out hway.out hlast hl2] at hR'
            injection hR' with r1 r2 r3 r4 r5 r6 r7
            replace r1 := r1.symm
            replace r2 := r2.symm
            replace r3 := r3.symm
            replace r4 := r4.symm
            replace r5 := r5.symm
            replace r6 := r6.symm
            replace r7 := r7.symm
            subst r1 r2 r3 r4 r5 r6 r7
            have hB6 := hB5.grown hg6 hB5.size (fun k hk => by injection hk with hk; omega)
            have hP6 := hP5.grown hg6 (by intro e; injection e with e; omega)
            have hQ6 : OB w6 (g + 1) P d p := hQ5.grown hg6 (.inl (hQ5.blk_ne (by omega)))
            have hs6 := Nat.le_trans hs5 hg6.size
            clear x0 x1 x2 x3 x4 hR hg6 hB5 hP5 hQ5 hs5 hJ5
            have x0 := hP6.cell 0 rfl
            have x1 := hP6.cell 1 rfl
            have x2 := hP6.cell 2 rfl
            have x3 := hP6.cell 3 rfl
            have x4 := hP6.cell 4 rfl
            have q3 : (p.length : Int) = 256 := by have := HL.out; omega
            go_wp2_with fail
            clear q3
            go_roundw
            case rel => exact ⟨m + 256, k + 1, i, t, l.take (m + 256), by omega, by omega, by go_num, by go_num, Lib.hid (.inr ⟨rfl, rfl, rfl⟩), hJ6, hB6, hs6⟩
            case measure => simp [intOf]; omega
          · clear htw
            go_wp2_with fail
            rw [← HU.out]
            generalize w4.alloc (.cells #[.int .u64 i, .int .u64 t, .int .i64 (m : Int), .bool false, .slice P p.length d] 25) = w5 at *
            have x0 := hP5.cell 0 rfl
            have x1 := hP5.cell 1 rfl
            have x2 := hP5.cell 2 rfl
            have x3 := hP5.cell 3 rfl
            have x4 := hP5.cell 4 rfl
            refine (joinAdd g ji jt h i t (m : Int) false P d p (g + 1) w5 hJ5 (Nat.le_trans hway.out.len hl2) (by omega) hs5 hQ5.rb (hQ5.far (.inl (by omega))) (by omega) (by omega) (by omega)).mono ?_
            rintro e w6 ⟨n, wl, dn, er, ji', jt', h', Wx, cw, hR, hwl, hh', rfl, hJ6, hW6, hg6⟩
            have hR' := hR.out
            rw [HP.out, addF_mid HI.out hway.out hlast hl2] at hR'
            injection hR' with r1 r2 r3 r4 r5 r6 r7
            replace r1 := r1.symm
            replace r2 := r2.symm
            replace r3 := r3.symm
            replace r4 := r4.symm
            replace r5 := r5.symm
            replace r6 := r6.symm
            replace r7 := r7.symm
            subst r1 r2 r3 r4 r5 r6 r7
            have hB6 := hB5.grown hg6 hB5.size (fun k hk => by injection hk with hk; omega)
            have hP6 := hP5.grown hg6 (by intro e; injection e with e; omega)
            have hQ6 : OB w6 (g + 1) P d p := hQ5.grown hg6 (.inl (hQ5.blk_ne (by omega)))
            have hs6 := Nat.le_trans hs5 hg6.size
            clear x0 x1 x2 x3 x4 hR hg6 hB5 hP5 hQ5 hs5 hJ5
            have x0 := hP6.cell 0 rfl
            have x1 := hP6.cell 1 rfl
            have x2 := hP6.cell 2 rfl
            have x3 := hP6.cell 3 rfl
            have x4 := hP6.cell 4 rfl
            have q3 : (p.length : Int) = 256 := by have := HL.out; omega
            go_wp2_with fail
            clear q3
            go_roundw
            case rel => exact ⟨m + 256, k + 1, i, t, l.take (m + 256), by omega, by omega, by go_num, by go_num, Lib.hid (.inr ⟨rfl, rfl, rfl⟩), hJ6, hB6, hs6⟩
            case measure => simp [intOf]; omega
      · have hpl256 : m + p.length = l.length := by omega
        have hdec : decide (m + p.length = l.length) = true := by simpa using hpl256
        rw [hdec]
        have HL := Lib.hid hpl256
        have hplen : (m : Int) + (p.length : Int) = (l.length : Int) := by omega
        have HPL := Lib.hid hplen
        clear hdec hpc hpl256 hplen
        have hP5 := Blk.new w4 #[.int .u64 i, .int .u64 t, .int .i64 (m : Int), .bool true, .slice P p.length d] 25
        have hb5 : Below w4.heap.size w4 (w4.alloc (.cells #[.int .u64 i, .int .u64 t, .int .i64 (m : Int), .bool true, .slice P p.length d] 25)) := (Below.refl _ _).alloc (Nat.le_refl _) _
        have hB5 := hB4.trans (hb5.mono hB4.size)
        have hJ5 := hJ4.below hb5
        have hs5 := Nat.le_trans hs4 hb5.size
        have hQ5 := hoq.below hb5
        obtain ⟨u, hu⟩ : ∃ u, u = w4.heap.size := ⟨_, rfl⟩
        have hug : g < u := by omega
        rw [← hu] at hP5
        have HU := Lib.hid hu
        clear hb5 hB4 hJ4 hs4 hoq hu
        go_wp2_with fail
        rw [← HU.out]
        generalize w4.alloc (.cells #[.int .u64 i, .int .u64 t, .int .i64 (m : Int), .bool true, .slice P p.length d] 25) = w5 at *
        have x0 := hP5.cell 0 rfl
        have x1 := hP5.cell 1 rfl
        have x2 := hP5.cell 2 rfl
        have x3 := hP5.cell 3 rfl
        have x4 := hP5.cell 4 rfl
        refine (joinAdd g ji jt h i t (m : Int) true P d p (g + 1) w5 hJ5 (Nat.le_trans hway.out.len hl2) (by omega) hs5 hQ5.rb (hQ5.far (.inl (by omega))) (by omega) (by omega) (by omega)).mono ?_
        rintro e w6 ⟨n, wl, dn, er, ji', jt', h', Wx, cw, hR, hwl, hh', rfl, hJ6, hW6, hg6⟩
        have hR' := hR.out
        rw [HP.out, addF_last HI.out hway.out hm (by omega) hl2] at hR'
        injection hR' with r1 r2 r3 r4 r5 r6 r7
        replace r1 := r1.symm
        replace r2 := r2.symm
        replace r3 := r3.symm
        replace r4 := r4.symm
        replace r5 := r5.symm
        replace r6 := r6.symm
        replace r7 := r7.symm
        subst r1 r2 r3 r4 r5 r6 r7
        have hB6 := hB5.grown hg6 hB5.size (fun k hk => by injection hk with hk; omega)
        have hP6 := hP5.grown hg6 (by intro e; injection e with e; omega)
        have hQ6 : OB w6 (g + 1) P d p := hQ5.grown hg6 (.inl (hQ5.blk_ne (by omega)))
        have hs6 := Nat.le_trans hs5 hg6.size
        clear x0 x1 x2 x3 x4 hR hg6 hB5 hP5 hQ5 hs5 hJ5
        have x0 := hP6.cell 0 rfl
        have x1 := hP6.cell 1 rfl
        have x2 := hP6.cell 2 rfl
        have x3 := hP6.cell 3 rfl
        have x4 := hP6.cell 4 rfl
        have hplen := HPL.out
        go_wp2_with fail
        refine (joinHave g 0 0 [] (g + 1) _ hJ6 (by simp)).mono ?_
        rintro e w7 ⟨rfl, hb7⟩
        have hc1 : (convert 23 9 (.slice Wx l.length cw)).run Try.prog w7 = .ok (.string ⟨l.toArray⟩) w7 := convB cw (hW6.below hb7)
        have hB7 := hB6.trans (hb7.mono hB6.size)
        have hc2 : (convert 23 9 (.slice D l.length c)).run Try.prog w7 = .ok (.string ⟨l.toArray⟩) w7 := convB c (HD.out.below hB7)
        have y4 := (hP6.kept hb7).cell 4 (v := .slice P p.length d) rfl
        clear x0 x1 x2 x3 x4 hJ6 hB6 hP6 hQ6 hb7 hW6
        go_wp2_with fail
        go_ret
        exact ⟨rfl, hB7⟩
end Go.Proofs.Ytogcdbodlomgeaa
