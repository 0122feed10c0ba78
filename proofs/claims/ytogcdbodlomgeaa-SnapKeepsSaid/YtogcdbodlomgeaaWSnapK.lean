/- The walk of the law SnapKeeps. -/
import Derived.Test.YtogcdbodlomgeaaWSnapB
namespace Go.Proofs.Ytogcdbodlomgeaa
open Go.RowKit

theorem OB.store {w : World} {base : Nat} {A : Option Addr} {c : Nat} {l : List UInt8} (h : OB w base A c l) {k : Nat} (hk : k < l.length) : ∃ g, A = some ⟨g, 0, none⟩ ∧ base ≤ g ∧ g < w.heap.size ∧
    w.cell? ⟨g, k, none⟩ = some (.int .u8 (l[k].toNat : Int)) ∧ w.frozen? ⟨g, k, none⟩ = false ∧
    ∀ (y : UInt8) (V : Int), V = (y.toNat : Int) → OB (w.setCell ⟨g, k, none⟩ (.int .u8 V)) base A c (l.set k y) ∧ w.grownBy (w.setCell ⟨g, k, none⟩ (.int .u8 V)) (some g) := by
  rcases h.form with ⟨_, _, rfl⟩ | ⟨g, rfl, hb, hg, _, _⟩
  · simp at hk
  · refine ⟨g, rfl, hb, hg, ?_, World.ownsRow.frozenAt h k, fun y V hV => ?_⟩
    · have := World.ownsRow.cellAt h k (by omega)
      rw [this, bcells_get, List.getElem?_eq_getElem hk]
      rfl
    · subst hV
      have := World.ownsRow.stored h k (.int .u8 (y.toNat : Int))
      refine ⟨?_, this.2⟩
      have e : (bcells l).set k (.int .u8 (y.toNat : Int)) = bcells (l.set k y) := by simp [bcells, List.map_set]
      rw [e] at this
      unfold OB
      rw [List.length_set]
      exact this.1
theorem OB.blk_lt {w : World} {base : Nat} {A : Option Addr} {c : Nat} {l : List UInt8} (h : OB w base A c l) : ∀ k, A.map (·.block) = some k → base ≤ k ∧ k < w.heap.size := fun k hk => h.own_lt k (by rw [own_blk]; exact hk)

set_option maxRecDepth 20000 in
set_option maxHeartbeats 1000000 in
theorem joinAdd_nil (i t off : Int) (last : Bool) (D : Option Addr) (n c : Nat) (w : World) :
    Calls Try.prog 37 #[.pointer none, .agg #[.int .u64 i, .int .u64 t, .int .i64 off, .bool last, .slice D n c]] w fun e w' => e = .returned (.tuple #[.int .i64 0, .slice none 0 0, .bool false, .int .i64 1]) ∧ Below w.heap.size w w' := by
  have hbw := (Below.refl w.heap.size w).alloc (Nat.le_refl _) (.cells #[.int .u64 i, .int .u64 t, .int .i64 off, .bool last, .slice D n c] 25)
  go_enter Try.func37, Try.ntmps37
  go_wp2_with fail
  refine bodyPost_ret (v := .tuple #[.int .i64 0, .slice none 0 0, .bool false, .int .i64 1]) (by simp [results, Try.results37, go_sem]) rfl ?_
  exact ⟨rfl, hbw⟩
theorem joinHave_nil (w : World) : Calls Try.prog 40 #[.pointer none] w fun e w' => e = .returned (.tuple #[.int .u64 0, .int .u64 0, .int .i64 0]) ∧ w = w' := by
  go_enter Try.func40, Try.ntmps40
  go_wp2_with fail
  go_ret3
  exact ⟨rfl, rfl⟩

theorem addF_end {q : List UInt8} (hq : q.length ≤ 256) : addF 1 1 q 1 1 (q.length : Int) true [] = ⟨(q.length : Int), q, true, 0, 0, 0, []⟩ := by
  unfold addF
  rw [if_neg (by simp), if_neg (by simp)]
  simp only [ne_eq, not_true_eq_false, if_false, Int.lt_irrefl, List.length_nil, Int.natCast_zero, Int.add_zero, Int.le_refl, true_and, Bool.true_eq_false, Int.toNat_natCast, List.take_length, List.append_nil, if_true]
  rw [if_neg (by omega)]

theorem RB.take {w : World} {A : Option Addr} {l : List UInt8} (h : RB w A l) (n : Nat) : RB w A (l.take n) := by
  refine ⟨fun hn => ?_⟩
  obtain ⟨b, off, e, hb, hc⟩ := h.at_ (by simp at hn; omega)
  refine ⟨b, off, e, hb, fun j x hx => hc j x ?_⟩
  rw [List.getElem?_take] at hx
  split at hx
  · exact hx
  · cases hx
theorem OB.grown_ne {w w' : World} {base c : Nat} {A : Option Addr} {l : List UInt8} {row : Option Nat} (h : OB w base A c l) (hg : w.grownBy w' row) (hk : ∀ k, row = some k → A.map (·.block) ≠ some k) : OB w' base A c l := by
  refine h.grown hg ?_
  rcases A with _ | a
  · exact .inr rfl
  · refine .inl fun e => ?_
    exact hk a.block (by rw [← e]; rfl) rfl
theorem Jn.grown_row {w w' : World} {base g : Nat} {T : TypeId} {ji jt : Int} {h : List UInt8} {row : Option Nat} (hj : Jn w base g T ji jt h) (hg : w.grownBy w' row) (hne : row ≠ some g) (hk : ∀ k, row = some k → k < base) : Jn w' base g T ji jt h := by
  obtain ⟨H, c, h1, h2⟩ := hj
  refine ⟨H, c, h1.grown hg hne, h2.grown_ne hg fun k e e' => ?_⟩
  have := (h2.blk_lt k e').1
  have := hk k e
  omega

set_option maxRecDepth 20000 in
set_option maxHeartbeats 8000000 in
theorem walkSnapKeeps (D : Option Addr) (c : Nat) (l : List UInt8) (w : World) (hD : RB w D l) (hl : l.length ≤ 140737488355328) (hlc : l.length ≤ c) (hc9 : c ≤ 9223372036854775807) :
    Calls Try.prog 14 #[.slice D l.length c] w (Yes w) := by
  have S := Lib.hid snapAnswers
  have HD := Lib.hid hD
  clear hD
  go_enter Try.func14, Try.ntmps14
  go_wp2_with fail
  refine (joinNew _).mono ?_
  rintro e w1 ⟨rfl, hw1⟩
  have hG1 : Blk w1 w.heap.size 67 #[.int .u64 0, .int .u64 0, .slice none 0 0] := by rw [hw1]; exact Blk.new w _ _
  have hb1 : Below w.heap.size w w1 := by rw [hw1]; exact (Below.refl _ _).alloc (Nat.le_refl _) _
  have hs1 : w.heap.size + 1 ≤ w1.heap.size := by rw [hw1]; simp
  obtain ⟨g, hg⟩ : ∃ g, g = w.heap.size := ⟨_, rfl⟩
  rw [← hg] at hG1 hs1
  clear hw1
  go_wp2_with fail
  rw [← hg]
  have hwg : w.heap.size ≤ g := by omega
  clear hg
  refine (S.out _).mono ?_
  rintro e w2 ⟨rfl, hb2⟩
  have hG2 := hG1.kept hb2
  have hB2 := hb1.trans (hb2.mono hb1.size)
  have hs2 := Nat.le_trans hs1 hb2.size
  clear hG1 hb1 hs1 hb2
  go_wp2_with (at_builtin; refine wp_appendB _ rfl (.tmp 31) (.tmp 32) rfl w2.heap.size _ D 0 c [] l rfl rfl (OB.made0 _ (Nat.le_refl _)) ((HD.out.below hB2).alloc _) (by simp; omega) (by simp) ?_; intro p3 A3 c3 w3 hp3 hp31 hp32 ho3 hg3)
  have hb3 : Below w2.heap.size w2 w3 := ((Below.refl _ _).alloc (Nat.le_refl _) _).grown hg3 (by simp) (by simp [Value.ownBlock])
  have hp3' := hp3.out
  rw [List.nil_append] at hp3'
  have HP3 := Lib.hid hp3'
  simp only [List.length_nil, Nat.zero_add] at hp31 hp32
  have hG3 := hG2.kept hb3
  have hB3 := hB2.trans (hb3.mono hB2.size)
  have hs3 := Nat.le_trans hs2 hb3.size
  have h3w : g < w3.heap.size := by omega
  have hc3 := ho3.cap
  clear hG2 hB2 hs2 hg3 hp3 hp3' hb3
  refine (snapCut 1 1 A3 c3 p3 0 _ ho3.rb hc3 (by omega) (by omega)).mono ?_
  rintro e w4 ⟨p, P, d, hp, hp1, rfl, hop, hb4⟩
  unfold PieceE
  obtain ⟨lb, hlb⟩ : ∃ lb, lb = decide (0 + (chunk p3 0).length = p3.length) := ⟨_, rfl⟩
  rw [← hlb]
  have hG4 := hG3.kept hb4
  have hB4 := hB3.trans (hb4.mono hB3.size)
  have hs4 := Nat.le_trans hs3 hb4.size
  have ho4 := ho3.below hb4
  have h3lt : ∀ k, A3.map (·.block) = some k → k < w3.heap.size := fun k hk => (ho3.blk_lt k hk).2
  have H3 := Lib.hid h3lt
  clear hlb hG3 hB3 hs3 ho3 hb4 h3lt hc3
  have hU5 := Blk.new w4 #[.int .u64 1, .int .u64 1, .int .i64 0, .bool lb, .slice P p.length d] 25
  have hb5 : Below w4.heap.size w4 (w4.alloc (.cells #[.int .u64 1, .int .u64 1, .int .i64 0, .bool lb, .slice P p.length d] 25)) := (Below.refl _ _).alloc (Nat.le_refl _) _
  have hG5 := hG4.kept hb5
  have hB5 := hB4.trans (hb5.mono hB4.size)
  have hs5 := Nat.le_trans hs4 hb5.size
  have ho5 := ho4.below hb5
  have hop5 := hop.below hb5
  have hPlt : ∀ k, P.map (·.block) = some k → w3.heap.size ≤ k ∧ k < w4.heap.size := fun k hk => hop.blk_lt k hk
  have HPL := Lib.hid hPlt
  obtain ⟨u, hu⟩ : ∃ u, u = w4.heap.size := ⟨_, rfl⟩
  have hgu : g < u := by omega
  rw [← hu] at hU5
  have HU := Lib.hid hu
  clear hG4 hB4 hs4 ho4 hop hb5 hPlt hu
  go_wp2_with fail
  rw [← HU.out]
  generalize w4.alloc (.cells #[.int .u64 1, .int .u64 1, .int .i64 0, .bool lb, .slice P p.length d] 25) = w5 at *
  refine (snapPiece 1 1 0 false P d p w5 hop5.rb (by omega)).mono ?_
  rintro e w6 ⟨q, Q, dq, hq, hq1, hq2, rfl, hoq6, hb6⟩
  have hq' := hq.out
  have HQ := Lib.hid hq'
  have hp' := hp.out
  rw [HP3.out] at hp'
  have HPC := Lib.hid hp'
  have hU6 := hU5.kept hb6
  have hG6 := hG5.kept hb6
  have hB6 := hB5.trans (hb6.mono hB5.size)
  have hs6 := Nat.le_trans hs5 hb6.size
  have ho6 := ho5.below hb6
  have hop6 := hop5.below hb6
  have hQlt : ∀ k, Q.map (·.block) = some k → w5.heap.size ≤ k ∧ k < w6.heap.size := fun k hk => hoq6.blk_lt k hk
  have HQL := Lib.hid hQlt
  have hu5 : u < w5.heap.size := hU5.lt
  have h56 := hb6.size
  clear hU5 hG5 hB5 hs5 ho5 hop5 hb6 hQlt hq hq' hp hp'
  have hV7 := Blk.new w6 #[.int .u64 1, .int .u64 1, .int .i64 0, .bool false, .slice Q q.length dq] 25
  have hb7 : Below w6.heap.size w6 (w6.alloc (.cells #[.int .u64 1, .int .u64 1, .int .i64 0, .bool false, .slice Q q.length dq] 25)) := (Below.refl _ _).alloc (Nat.le_refl _) _
  have hU7 := hU6.kept hb7
  have hG7 := hG6.kept hb7
  have hB7 := hB6.trans (hb7.mono hB6.size)
  have hs7 := Nat.le_trans hs6 hb7.size
  have ho7 := ho6.below hb7
  have hop7 := hop6.below hb7
  have hoq7 := hoq6.below hb7
  have h67 := hb7.size
  obtain ⟨v, hv⟩ : ∃ v, v = w6.heap.size := ⟨_, rfl⟩
  rw [← hv] at hV7 h67 h56
  have HV := Lib.hid hv
  clear hU6 hG6 hB6 hs6 ho6 hop6 hoq6 hb7 hv
  go_wp2_with fail
  rw [← HV.out]
  generalize w6.alloc (.cells #[.int .u64 1, .int .u64 1, .int .i64 0, .bool false, .slice Q q.length dq] 25) = w7 at *
  have h3g : g < w3.heap.size := h3w
  have hPu : ∀ k, P.map (·.block) = some k → w3.heap.size ≤ k ∧ k < u := by rw [HU.out]; exact HPL.out
  have HPU := Lib.hid hPu
  have hQv : ∀ k, Q.map (·.block) = some k → w5.heap.size ≤ k ∧ k < v := by rw [HV.out]; exact HQL.out
  have HQV := Lib.hid hQv
  clear hPu hQv
  go_loopw [8] (fun i wr => ∃ (k : Nat) (p' : List UInt8), k ≤ p.length ∧ i = .int .i64 (k : Int) ∧ p'.length ≤ p.length ∧ p.length ≤ p'.length ∧ OB wr w3.heap.size P d p' ∧ w7.grownBy wr (P.map (·.block)))
    (fun i _ => p.length - (intOf i).toNat)
  case atStart => exact ⟨0, p, Nat.zero_le _, rfl, Nat.le_refl _, Nat.le_refl _, hop7, World.grownBy.refl _ _⟩
  case round =>
    obtain ⟨k, p', hk, rfl, hp'1, hp'2, hopr, hgr⟩ := hrel
    have hUr := hU7.grown hgr (fun e => by have := (HPU.out _ e).2; omega)
    have x4 := hUr.cell 4 (v := .slice P p.length d) rfl
    by_cases hlt : k < p.length
    · obtain ⟨gp, rfl, hgp1, hgp2, hcell, hfz, hst⟩ := hopr.store (k := k) (by omega)
      have HST := Lib.hid (hst 99 99 rfl)
      clear hst hUr
      go_wp2_with fail
      go_roundw
      case rel => exact ⟨k + 1, p'.set k 99, by omega, by go_num, by rw [List.length_set]; omega, by rw [List.length_set]; omega, HST.out.1, gb_trans hgr HST.out.2⟩
      case measure => simp [intOf]; omega
    · have hkk : ¬ (k : Int) < (p.length : Int) := by omega
      clear hlt
      have hGr := hG7.grown hgr (fun e => by have := (HPU.out _ e).1; omega)
      have hVr := hV7.grown hgr (fun e => by have := (HPU.out _ e).2; omega)
      have hor := ho7.grown_ne hgr (fun k e e' => by have := (HPU.out k e).1; have := H3.out k e'; omega)
      have hoqr := hoq7.grown_ne hgr (fun k e e' => by have := (HPU.out k e).2; have := (HQV.out k e').1; omega)
      have hBr := hB7.grown hgr hB7.size (fun k e => by have := (HPU.out k e).1; omega)
      have hsr := Nat.le_trans hs7 hgr.size
      have hvr : v < wr.heap.size := hVr.lt
      have hc1 : (convert 23 9 (.slice A3 p3.length c3)).run Try.prog wr = .ok (.string ⟨l.toArray⟩) wr := by rw [convB c3 hor.rb, HP3.out]
      have hc2 : (convert 23 9 (.slice D l.length c)).run Try.prog wr = .ok (.string ⟨l.toArray⟩) wr := convB c (HD.out.below hBr)
      have y0 := hVr.cell 0 rfl
      have y1 := hVr.cell 1 rfl
      have y2 := hVr.cell 2 rfl
      have y3 := hVr.cell 3 rfl
      have y4 := hVr.cell 4 (v := .slice Q q.length dq) rfl
      clear hU7 hG7 hB7 hs7 ho7 hop7 hoq7 hUr hopr hgr hp'1 hp'2 hor
      go_wp2_with fail
      refine (joinAdd g 0 0 [] 1 1 0 false Q dq q wr.heap.size wr ⟨none, 0, hGr, OB.nil _ _⟩ (by simp) (by omega) (Nat.le_refl _) hoqr.rb (hoqr.far (.inl (by omega))) (by omega) (by omega) (by omega)).mono ?_
      rintro e w8 ⟨n, wl, dn, er, ji, jt, h, Wx, cw, hR, hwl, hh, rfl, hJ8, hW8, hg8⟩
      have hR' := hR.out
      rw [addF_new (by decide) (by omega) (by simp)] at hR'
      injection hR' with r1 r2 r3 r4 r5 r6 r7
      replace r1 := r1.symm
      replace r2 := r2.symm
      replace r3 := r3.symm
      replace r4 := r4.symm
      replace r5 := r5.symm
      replace r6 := r6.symm
      replace r7 := r7.symm
      subst r1 r2 r3 r4 r5 r6 r7
      have hB8 := hBr.grown hg8 hBr.size (fun k hk => by injection hk with hk; omega)
      have hV8 := hVr.grown hg8 (by intro e; injection e with e; omega)
      have hoq8 := hoqr.grown_ne hg8 (fun k e e' => by injection e with e; have := (HQV.out k e').1; omega)
      have hs8 := Nat.le_trans hsr hg8.size
      have h8 := hg8.size
      obtain ⟨b8, hb8⟩ : ∃ b8, b8 = wr.heap.size := ⟨_, rfl⟩
      rw [← hb8] at hJ8 h8 hvr
      clear y0 y1 y2 y3 y4 hR hwl hW8 hg8 hBr hVr hoqr hsr hGr hc1 hc2 hb8
      go_wp2_with fail
      go_loopw [9] (fun i wr => ∃ (k : Nat) (q' : List UInt8), k ≤ q.length ∧ i = .int .i64 (k : Int) ∧ q'.length ≤ q.length ∧ q.length ≤ q'.length ∧ OB wr w5.heap.size Q dq q' ∧ w8.grownBy wr (Q.map (·.block)))
        (fun i _ => q.length - (intOf i).toNat)
      case atStart => exact ⟨0, q, Nat.zero_le _, rfl, Nat.le_refl _, Nat.le_refl _, hoq8, World.grownBy.refl _ _⟩
      case round =>
        obtain ⟨k2, q', hk2, rfl, hq'1, hq'2, hoqr, hgr⟩ := hrel
        have hVr := hV8.grown hgr (fun e => by have := (HQV.out _ e).2; omega)
        have y4 := hVr.cell 4 (v := .slice Q q.length dq) rfl
        by_cases hlt : k2 < q.length
        · obtain ⟨gq, rfl, hgq1, hgq2, hcell, hfz, hst⟩ := hoqr.store (k := k2) (by omega)
          have HST := Lib.hid (hst 98 98 rfl)
          clear hst hVr
          go_wp2_with fail
          go_roundw
          case rel => exact ⟨k2 + 1, q'.set k2 98, by omega, by go_num, by rw [List.length_set]; omega, by rw [List.length_set]; omega, HST.out.1, gb_trans hgr HST.out.2⟩
          case measure => simp [intOf]; omega
        · have hkk2 : ¬ (k2 : Int) < (q.length : Int) := by omega
          clear hlt
          have hJr := hJ8.grown_row hgr (fun e => by have := (HQV.out _ e).1; omega) (fun k e => by have := (HQV.out k e).2; omega)
          have hBr := hB8.grown hgr hB8.size (fun k e => by have := (HQV.out k e).1; omega)
          have hsr := Nat.le_trans hs8 hgr.size
          have h8r := Nat.le_trans h8 hgr.size
          have hb9 : Below wr.heap.size wr (wr.alloc (.cells #[.int .u64 1, .int .u64 1, .int .i64 (q.length : Int), .bool true, .slice none 0 0] 25)) := (Below.refl _ _).alloc (Nat.le_refl _) _
          have hZ9 := Blk.new wr #[.int .u64 1, .int .u64 1, .int .i64 (q.length : Int), .bool true, .slice none 0 0] 25
          have hJ9 := hJr.below hb9
          have hB9 := hBr.trans (hb9.mono hBr.size)
          have hs9 := Nat.le_trans hsr hb9.size
          have h89 := Nat.le_trans h8r hb9.size
          obtain ⟨z, hz⟩ : ∃ z, z = wr.heap.size := ⟨_, rfl⟩
          have hgz : g < z := by omega
          rw [← hz] at hZ9
          have HZ := Lib.hid hz
          clear hoqr hgr hVr hJr hBr hsr hb9 hJ8 hV8 hoq8 hs8 hB8 hz
          go_wp2_with fail
          rw [← HZ.out]
          generalize wr.alloc (.cells #[.int .u64 1, .int .u64 1, .int .i64 (q.length : Int), .bool true, .slice none 0 0] 25) = w9 at *
          clear y4
          refine (joinAdd g 1 1 q 1 1 (q.length : Int) true none 0 [] b8 w9 hJ9 (by omega) (by omega) h89 RB.nil (by simp) (by simp) (by omega) (by omega)).mono ?_
          rintro e w10 ⟨n, wl, dn, er, ji, jt, h, Wy, cy, hR, hwl, hh', rfl, hJ10, hW10, hg10⟩
          have hR' := hR.out
          rw [addF_end (by omega)] at hR'
          injection hR' with r1 r2 r3 r4 r5 r6 r7
          replace r1 := r1.symm
          replace r2 := r2.symm
          replace r3 := r3.symm
          replace r4 := r4.symm
          replace r5 := r5.symm
          replace r6 := r6.symm
          replace r7 := r7.symm
          subst r1 r2 r3 r4 r5 r6 r7
          have hB10 := hB9.grown hg10 hB9.size (fun k hk => by injection hk with hk; omega)
          have hZ10 := hZ9.grown hg10 (by intro e; injection e with e; omega)
          have z0 := hZ10.cell 0 rfl
          have z1 := hZ10.cell 1 rfl
          have z2 := hZ10.cell 2 rfl
          have z3 := hZ10.cell 3 rfl
          have z4 := hZ10.cell 4 (v := .slice none 0 0) rfl
          have hql : q = l.take 256 := by rw [HQ.out, HPC.out]; simp [chunk]
          clear hR hJ9 hB9 hZ9 hs9 h89 hg10 hJ10
          by_cases h256 : l.length ≤ 256
          · have hql2 : q = l := by rw [hql, List.take_of_length_le h256]
            have HQL2 := Lib.hid hql2
            have h256' : ¬ (256 : Int) < (l.length : Int) := by omega
            clear hql hql2
            go_wp2_with fail
            refine (joinAdd_nil 1 1 (q.length : Int) true none 0 0 w10).mono ?_
            rintro e w11 ⟨rfl, hb11⟩
            have hB11 := hB10.trans (hb11.mono hB10.size)
            have hc1 : ∀ a, (convert 23 9 (.slice Wy q.length cy)).run Try.prog (w11.drewN a) = .ok (.string ⟨l.toArray⟩) (w11.drewN a) := fun a => by rw [convB cy ((hW10.below hb11).drewN a), HQL2.out]
            have hc2 : ∀ a, (convert 23 9 (.slice D l.length c)).run Try.prog (w11.drewN a) = .ok (.string ⟨l.toArray⟩) (w11.drewN a) := fun a => convB c ((HD.out.below hB11).drewN a)
            clear z0 z1 z2 z3 z4 hB10 hb11 hZ10 hW10
            go_wp2_with fail
            refine (joinHave_nil w11).mono ?_
            rintro e w12 ⟨rfl, rfl⟩
            go_wp2_with fail
            go_quiet (fail)
            go_wp2_with fail
            go_ret
            exact ⟨rfl, below_drewN hB11 _⟩
          · have hq256 : q.length = 256 := by rw [hql, List.length_take]; omega
            have HQL2 := Lib.hid hql
            have HQ6 := Lib.hid hq256
            have h256' : (256 : Int) < (l.length : Int) := by omega
            have h256c : 256 ≤ c := by omega
            clear hql hq256
            go_wp2_with fail
            refine (joinAdd_nil 1 1 (q.length : Int) true none 0 0 w10).mono ?_
            rintro e w11 ⟨rfl, hb11⟩
            have hB11 := hB10.trans (hb11.mono hB10.size)
            have hc1 : ∀ a, (convert 23 9 (.slice Wy q.length cy)).run Try.prog (w11.drewN a) = .ok (.string ⟨q.toArray⟩) (w11.drewN a) := fun a => convB cy ((hW10.below hb11).drewN a)
            have hc2 : ∀ a, (convert 23 9 (.slice D 256 c)).run Try.prog (w11.drewN a) = .ok (.string ⟨q.toArray⟩) (w11.drewN a) := fun a => by
              have h1 : RB (w11.drewN a) D (l.take 256) := ((HD.out.below hB11).drewN a).take 256
              rw [← HQL2.out] at h1
              have h2 := convB c h1
              rwa [HQ6.out] at h2
            clear z0 z1 z2 z3 z4 hB10 hb11 hZ10 hW10
            go_wp2_with fail
            refine (joinHave_nil w11).mono ?_
            rintro e w12 ⟨rfl, rfl⟩
            go_wp2_with fail
            go_quiet (fail)
            go_wp2_with fail
            go_ret
            exact ⟨rfl, below_drewN hB11 _⟩
end Go.Proofs.Ytogcdbodlomgeaa
