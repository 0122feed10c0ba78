/- The walk of the law SnapNewer. -/
import Derived.Test.YtogcdbodlomgeaaWSnapA
namespace Go.Proofs.Ytogcdbodlomgeaa
open Go.RowKit

theorem OB.far {w : World} {base k : Nat} {A : Option Addr} {c : Nat} {l : List UInt8} (h : OB w base A c l) (hk : k < base ∨ w.heap.size ≤ k) : ∀ b off, 0 < l.length → A = some ⟨b, off, none⟩ → b ≠ k := by
  intro b off _ e e'
  have := h.own_lt b (by rw [own_blk, e]; rfl)
  omega
theorem OB.ne_blk {w : World} {base u : Nat} {A : Option Addr} {c : Nat} {l : List UInt8} {T : TypeId} {cs : Array Value} (h : OB w base A c l) (k : Blk w u T cs) (hT : T ≠ 5) : A.map (·.block) ≠ some u := by
  intro e
  rcases h.2 with ⟨hv, _⟩ | ⟨g, cap, cur, hv, _, hg, _⟩
  · injection hv with h1 _ _
    rw [h1] at e
    cases e
  · injection hv with h1 _ _
    rw [h1] at e
    injection e with e
    subst e
    unfold Blk at k
    rw [hg] at k
    injection k with k
    injection k with _ k2 _
    exact hT k2.symm
theorem Jn.setCell {w : World} {base g : Nat} {T : TypeId} {ji jt : Int} {h : List UInt8} {a : Addr} (hj : Jn w base g T ji jt h) (hg : g ≠ a.block) (ha : ∀ H c, OB w base H c h → H.map (·.block) ≠ some a.block) (v : Value) : Jn (w.setCell a v) base g T ji jt h := by
  obtain ⟨H, c, h1, h2⟩ := hj
  exact ⟨H, c, h1.setCell_other v hg, ownsRow_setCell_other h2 (by rw [own_blk]; exact ha H c h2) v⟩

set_option maxRecDepth 20000 in
set_option maxHeartbeats 4000000 in
theorem walkSnapNewer (A : Option Addr) (ca : Nat) (a : List UInt8) (B : Option Addr) (cb : Nat) (b : List UInt8) (i t o : Int) (w : World) (hA : RB w A a) (hal : a.length ≤ 140737488355328) (hB : RB w B b) (hbl : b.length ≤ 140737488355328)
    (_hi : 0 ≤ i ∧ i ≤ 18446744073709551615) (_ht : 0 ≤ t ∧ t ≤ 18446744073709551615) (_ho : 0 ≤ o ∧ o ≤ 18446744073709551615) :
    Calls Try.prog 13 #[.slice A a.length ca, .slice B b.length cb, .int .u64 i, .int .u64 t, .int .u64 o] w (Yes w) := by
  clear _hi _ht _ho
  have S := Lib.hid snapAnswers
  by_cases hbad : i = 0 ∨ o = 0 ∨ i = o ∨ 30000 < a.length ∨ 30000 < b.length
  · have fin : ∀ (k : (i == 0) = true ∨ (i == 0) = false ∧ ((o == 0) = true ∨ (o == 0) = false ∧ ((i == o) = true ∨ (i == o) = false ∧ ((30000 : Int) < (a.length : Int) ∨ ¬ (30000 : Int) < (a.length : Int) ∧ (30000 : Int) < (b.length : Int))))), Calls Try.prog 13 #[.slice A a.length ca, .slice B b.length cb, .int .u64 i, .int .u64 t, .int .u64 o] w (Yes w) := by
      intro k
      rcases k with k1 | ⟨k1, k2 | ⟨k2, k3 | ⟨k3, k4 | ⟨k4, k5⟩⟩⟩⟩
      all_goals
        go_enter Try.func13, Try.ntmps13
        go_wp2_with fail
        refine (S.out _).mono ?_
        rintro e w1 ⟨rfl, hb1⟩
        go_wp2_with fail
        refine (S.out _).mono ?_
        rintro e w2 ⟨rfl, hb2⟩
        go_wp2_with fail
        go_ret
        exact ⟨rfl, hb1.trans (hb2.mono hb1.size)⟩
    apply fin
    by_cases k1 : i = 0
    · left; simpa using k1
    · right
      refine ⟨by simpa using k1, ?_⟩
      by_cases k2 : o = 0
      · left; simpa using k2
      · right
        refine ⟨by simpa using k2, ?_⟩
        by_cases k3 : i = o
        · left; simpa using k3
        · right
          refine ⟨by simpa using k3, ?_⟩
          omega
  · have n1 : i ≠ 0 := fun e => hbad (.inl e)
    have n2 : o ≠ 0 := fun e => hbad (.inr (.inl e))
    have n3 : i ≠ o := fun e => hbad (.inr (.inr (.inl e)))
    have l1 : a.length ≤ 30000 := by omega
    have l2 : b.length ≤ 30000 := by omega
    have k1 : (i == 0) = false := by simpa using n1
    have k2 : (o == 0) = false := by simpa using n2
    have k3 : (i == o) = false := by simpa using n3
    have k4 : ¬ (30000 : Int) < (a.length : Int) := by omega
    have k5 : ¬ (30000 : Int) < (b.length : Int) := by omega
    clear hbad
    have N1 := Lib.hid n1
    have N2 := Lib.hid n2
    have N3 := Lib.hid n3
    clear n1 n2 n3
    go_enter Try.func13, Try.ntmps13
    go_wp2_with fail
    refine (S.out _).mono ?_
    rintro e w1 ⟨rfl, hb1⟩
    go_wp2_with fail
    refine (joinNew _).mono ?_
    rintro e w2 ⟨rfl, hw2⟩
    have hJ2 : Jn w2 (w1.heap.size + 1) w1.heap.size 67 0 0 [] := by rw [hw2]; exact ⟨none, 0, Blk.new w1 _ _, OB.nil _ _⟩
    have hb2 : Below w.heap.size w w2 := by rw [hw2]; exact hb1.alloc hb1.size _
    have hs2 : w1.heap.size + 1 ≤ w2.heap.size := by rw [hw2]; simp
    clear hw2
    obtain ⟨g, hg⟩ : ∃ g, g = w1.heap.size := ⟨_, rfl⟩
    have hwg : w.heap.size ≤ g := by rw [hg]; exact hb1.size
    rw [← hg] at hJ2 hs2
    rw [← hg]
    clear hg hb1
    have HA := Lib.hid (hA.below hb2)
    have HB := Lib.hid (hB.below hb2)
    go_wp2_with (at_builtin; refine wp_appendB _ rfl (.tmp 64) (.tmp 65) rfl w2.heap.size _ A 0 ca [] a rfl rfl (OB.made0 _ (Nat.le_refl _)) (HA.out.alloc _) (by simp; omega) (by simp) ?_; intro p3 A3 c3 w3 hp3 hp31 hp32 ho3 hg3)
    have hb3 : Below w2.heap.size w2 w3 := ((Below.refl _ _).alloc (Nat.le_refl _) _).grown hg3 (by simp) (by simp [Value.ownBlock])
    simp only [List.length_nil, Nat.zero_add] at hp31 hp32
    refine (snapCut0 i t A3 c3 p3 _ ho3.rb ho3.cap (by omega)).mono ?_
    rintro e w4 ⟨lb, p, P, d, hpl, rfl, hop, hb4⟩
    have hb24 : Below w2.heap.size w2 w4 := hb3.trans (hb4.mono hb3.size)
    have hJ4 := hJ2.below hb24
    have hB4 := hb2.trans (hb24.mono hb2.size)
    have hbB4 := HB.out.below hb24
    have hs3 : g + 1 ≤ w3.heap.size := Nat.le_trans hs2 hb3.size
    clear hp3 hp31 hp32 ho3 hg3 hb3 hb4 HA
    go_wp2_with fail
    have hb5 : Below w4.heap.size w4 (w4.alloc (.cells #[.int .u64 i, .int .u64 t, .int .i64 0, .bool false, .slice P p.length d] 25)) := (Below.refl _ _).alloc (Nat.le_refl _) _
    have hB5 := hB4.trans (hb5.mono hB4.size)
    have hs5 := Nat.le_trans hs2 (Nat.le_trans hb24.size hb5.size)
    refine (joinAdd g 0 0 [] i t 0 false P d p (g + 1) _ (hJ4.below hb5) (by simp) (by omega) hs5 (hop.rb.below hb5) (hop.far (.inl (by omega))) (by omega) (by omega) (by omega)).mono ?_
    rintro e w6 ⟨n, wl, dn, er, ji, jt, h, Wx, cw, hR, hwl, hh, rfl, hJ6, hW6, hg6⟩
    have hR' := hR.out
    rw [addF_new N1.out hpl (fun e => N1.out (by injection e))] at hR'
    injection hR' with r1 r2 r3 r4 r5 r6 r7
    replace r1 := r1.symm
    replace r2 := r2.symm
    replace r3 := r3.symm
    replace r4 := r4.symm
    replace r5 := r5.symm
    replace r6 := r6.symm
    replace r7 := r7.symm
    subst r1 r2 r3 r4 r5 r6 r7
    have hB6 := hB5.grown hg6 hB5.size (fun k hk => by injection hk with hk; omega)
    have hbB6 := hB.below hB6
    have hs6 := Nat.le_trans hs5 hg6.size
    clear hR hwl hW6 hg6 hB5 hb5 hs5 hJ4 hB4 hbB4 hb24 hJ2 hb2 hs2 hop HB hA hB
    go_wp2_with (at_builtin; refine wp_appendB _ rfl (.tmp 82) (.tmp 83) rfl w6.heap.size _ B 0 cb [] b rfl rfl (OB.made0 _ (Nat.le_refl _)) (hbB6.alloc _) (by simp; omega) (by simp) ?_; intro p7 A7 c7 w7 hp7 hp71 hp72 ho7 hg7)
    have hb7 : Below w6.heap.size w6 w7 := ((Below.refl _ _).alloc (Nat.le_refl _) _).grown hg7 (by simp) (by simp [Value.ownBlock])
    simp only [List.length_nil, Nat.zero_add] at hp71 hp72
    refine (snapCut0 o t A7 c7 p7 _ ho7.rb ho7.cap (by omega)).mono ?_
    rintro e w8 ⟨lb2, q, Q, dq, hql, rfl, hoq, hb8⟩
    have hb68 : Below w6.heap.size w6 w8 := hb7.trans (hb8.mono hb7.size)
    have hJ8 := hJ6.below hb68
    have hB8 := hB6.trans (hb68.mono hB6.size)
    have hs8 := Nat.le_trans hs6 hb68.size
    have hoq' := hoq.base_le (base' := g + 1) (by have := hb7.size; omega)
    clear hp7 hp71 hp72 ho7 hg7 hb7 hb8 hJ6 hB6 hbB6 hs6 hb68 hoq
    go_wp2_with fail
    have hb9 : Below w8.heap.size w8 (w8.alloc (.cells #[.int .u64 o, .int .u64 t, .int .i64 1, .bool lb2, .slice Q q.length dq] 25)) := (Below.refl _ _).alloc (Nat.le_refl _) _
    have hP9 := Blk.new w8 #[.int .u64 o, .int .u64 t, .int .i64 1, .bool lb2, .slice Q q.length dq] 25
    have hB9 := hB8.trans (hb9.mono hB8.size)
    have hs9 := Nat.le_trans hs8 hb9.size
    have hQ9 := hoq'.below hb9
    obtain ⟨u, hu⟩ : ∃ u, u = w8.heap.size := ⟨_, rfl⟩
    have hug : g < u := by omega
    have hqu := hoq'.far (k := u) (.inr (by omega))
    rw [← hu] at hP9
    rw [← hu]
    refine (joinAdd g i t p o t 1 lb2 Q dq q (g + 1) _ (hJ8.below hb9) hh (by omega) hs9 hQ9.rb (hoq'.far (.inl (by omega))) (by omega) (by omega) (by omega)).mono ?_
    rintro e w10 ⟨n, wl, dn, er, ji, jt, h, Wx, cw, hR, hwl, hh', rfl, hJ10, hW6, hg10⟩
    have hR' := hR.out
    rw [addF_gap N2.out hql (fun e => N3.out (by injection e with e; exact e.symm)) (by omega)] at hR'
    injection hR' with r1 r2 r3 r4 r5 r6 r7
    replace r1 := r1.symm
    replace r2 := r2.symm
    replace r3 := r3.symm
    replace r4 := r4.symm
    replace r5 := r5.symm
    replace r6 := r6.symm
    replace r7 := r7.symm
    subst r1 r2 r3 r4 r5 r6 r7
    have hB10 := hB9.grown hg10 hB9.size (fun k hk => by injection hk with hk; omega)
    have hP10 := hP9.grown hg10 (by intro e; injection e with e; omega)
    have hQ10 : OB w10 (g + 1) Q dq q := hQ9.grown hg10 (.inl (hQ9.blk_ne (by omega)))
    have hs10 := Nat.le_trans hs9 hg10.size
    clear hR hwl hW6 hg10 hB9 hb9 hs9 hJ8 hB8 hs8 hoq' hP9 hQ9 hu hh'
    go_wp2_with fail
    refine (joinHave g i t p (g + 1) _ hJ10 (by omega)).mono ?_
    rintro e w11 ⟨rfl, hb11⟩
    have hJ11 := hJ10.below hb11
    have hB11 := hB10.trans (hb11.mono hB10.size)
    have hP11 := hP10.kept hb11
    have hQ11 := hQ10.below hb11
    have hs11 := Nat.le_trans hs10 hb11.size
    have c0 := hP11.cell 0 rfl
    have c1 := hP11.cell 1 rfl
    have c2 := hP11.cell 2 rfl
    have c3 := hP11.cell 3 rfl
    have c4 := hP11.cell 4 rfl
    have f2 := hP11.free 2
    have f3 := hP11.free 3
    clear hJ10 hB10 hP10 hQ10 hs10 hb11
    go_wp2_with fail
    have hP12 := hP11.setCell 2 (.int .i64 0)
    have hJ12 := hJ11.setCell (a := ⟨u, 2, none⟩) (by simp; omega) (fun H c ho => ho.ne_blk hP11 (by decide)) (.int .i64 0)
    have hP13 := hP12.setCell 3 (.bool false)
    have hJ13 := hJ12.setCell (a := ⟨u, 3, none⟩) (by simp; omega) (fun H c ho => ho.ne_blk hP12 (by decide)) (.bool false)
    have hQ13 := (hQ11.rb.setCell (a := ⟨u, 2, none⟩) hqu (.int .i64 0)).setCell (a := ⟨u, 3, none⟩) hqu (.bool false)
    have hB13 := (hB11.setCell (p := ⟨u, 2, none⟩) (by simp; omega) (.int .i64 0)).setCell (p := ⟨u, 3, none⟩) (by simp; omega) (.bool false)
    have hs13 : g + 1 ≤ ((w11.setCell ⟨u, 2, none⟩ (.int .i64 0)).setCell ⟨u, 3, none⟩ (.bool false)).heap.size := by simpa [World.setCell] using hs11
    have hqg := hQ11.far (k := g) (.inl (by omega))
    clear hP11 hJ11 hP12 hJ12 hQ11 hB11 hs11 c0 c1 c2 c3 c4 f2 f3
    generalize (w11.setCell ⟨u, 2, none⟩ (.int .i64 0)).setCell ⟨u, 3, none⟩ (.bool false) = w13 at *
    refine (joinAdd g i t p o t 0 false Q dq q (g + 1) _ hJ13 hh (by omega) hs13 hQ13 hqg (by omega) (by omega) (by omega)).mono ?_
    rintro e w14 ⟨n, wl, dn, er, ji, jt, h, Wx, cw, hR, hwl, hh', rfl, hJ14, hW6, hg14⟩
    have hR' := hR.out
    rw [addF_new N2.out hql (fun e => N3.out (by injection e with e; exact e.symm))] at hR'
    injection hR' with r1 r2 r3 r4 r5 r6 r7
    replace r1 := r1.symm
    replace r2 := r2.symm
    replace r3 := r3.symm
    replace r4 := r4.symm
    replace r5 := r5.symm
    replace r6 := r6.symm
    replace r7 := r7.symm
    subst r1 r2 r3 r4 r5 r6 r7
    have hB14 := hB13.grown hg14 hB13.size (fun k hk => by injection hk with hk; omega)
    have hP14 := hP13.grown hg14 (by intro e; injection e with e; omega)
    clear hR hwl hW6 hg14 hB13 hJ13 hP13 hQ13 hs13 hh' hqg hqu
    go_wp2_with fail
    refine (joinHave g o t q (g + 1) _ hJ14 (by omega)).mono ?_
    rintro e w15 ⟨rfl, hb15⟩
    have hB15 := hB14.trans (hb15.mono hB14.size)
    have c4 := (hP14.kept hb15).cell 4 (v := .slice Q q.length dq) rfl
    clear hB14 hP14 hJ14 hb15
    go_wp2_with fail
    go_ret
    exact ⟨rfl, hB15⟩
end Go.Proofs.Ytogcdbodlomgeaa
