/- The walk of the law SnapAdds. -/
import Derived.Test.YtogcdbodlomgeaaPiece
import Derived.Test.YtogcdbodlomgeaaRJoin
import Derived.Test.YtogcdbodlomgeaaWSnapN
import Derived.Test.YtogcdbodlomgeaaArgsS
namespace Go.Proofs.Ytogcdbodlomgeaa
open Go.RowKit

theorem RB.ne_blk {w : World} {A : Option Addr} {l : List UInt8} {g : Nat} {T : TypeId} {cs : Array Value} (h : RB w A l) (k : Blk w g T cs) (hn : ∀ (j : Nat) (n : Int), cs[j]? ≠ some (Value.int .u8 n)) : ∀ b off, 0 < l.length → A = some ⟨b, off, none⟩ → b ≠ g := by
  intro b off hl e e'
  obtain ⟨b', off', e2, _, hc⟩ := h.at_ hl
  rw [e] at e2
  injection e2 with e2
  injection e2 with e3 e4
  subst e3 e4 e'
  have := hc 0 l[0] (List.getElem?_eq_getElem hl)
  rw [cell_of_row _ _ _ _ _ _ k] at this
  exact hn _ _ this
theorem Jn.no_u8 {ji jt : Int} {v : Value} (hv : ∀ n : Int, v ≠ Value.int .u8 n) : ∀ (j : Nat) (n : Int), (#[.int .u64 ji, .int .u64 jt, v] : Array Value)[j]? ≠ some (Value.int .u8 n) := by
  intro j n
  match j with
  | 0 => simp
  | 1 => simp
  | 2 => simpa using hv n
  | j + 3 => simp
theorem Jn.far {w : World} {base g : Nat} {T : TypeId} {ji jt : Int} {h : List UInt8} (hj : Jn w base g T ji jt h) {A : Option Addr} {l : List UInt8} (hl : RB w A l) : ∀ b off, 0 < l.length → A = some ⟨b, off, none⟩ → b ≠ g := by
  obtain ⟨H, c, h1, _⟩ := hj
  exact hl.ne_blk h1 (Jn.no_u8 (fun n e => by cases e))
theorem Jn.grown {w w' : World} {base g k : Nat} {T : TypeId} {ji jt : Int} {h : List UInt8} (hj : Jn w base g T ji jt h) (hg : w.grownBy w' (some k)) (hne : g ≠ k) (hk : k < base) : Jn w' base g T ji jt h := by
  obtain ⟨H, c, h1, h2⟩ := hj
  exact ⟨H, c, h1.grown hg (by intro e; injection e with e; exact hne e.symm), h2.grown hg (.inl (h2.blk_ne hk))⟩
theorem RB.grown {w w' : World} {A : Option Addr} {l : List UInt8} {k : Nat} (h : RB w A l) (hg : w.grownBy w' (some k)) (hne : ∀ b off, 0 < l.length → A = some ⟨b, off, none⟩ → b ≠ k) : RB w' A l :=
  h.keep hg.size fun b off hn e hlt j => World.cell?_of_block (w := w) (hg.block b hlt (fun e' => hne b off hn e (by injection e')))

/-- A piece among the arguments. -/
theorem piece_row {w : World} {r : List Fv} (h : rowOk w [.int .u64, .int .u64, .int .i64, .bool, .bytes] r) : ∃ (i t off : Int) (last : Bool) (D : Option Addr) (c : Nat) (d : List UInt8), r = [.int .u64 i, .int .u64 t, .int .i64 off, .bool last, .bytes D c d] ∧
    (-9223372036854775808 ≤ off ∧ off ≤ 9223372036854775807) ∧ RB w D d ∧ d.length ≤ c ∧ c ≤ 9223372036854775807 ∧ d.length ≤ 140737488351232 := by
  match r, h with
  | [.int k0 n0, .int k1 n1, .int k2 n2, .bool b, .bytes D c d], h =>
    obtain ⟨⟨rfl, h0⟩, ⟨rfl, h1⟩, ⟨rfl, h2⟩, _, ⟨h3, h4, h5, h6⟩, _⟩ := h
    exact ⟨n0, n1, n2, b, D, c, d, rfl, i64_of_wf h2, h3, h4, h5, h6⟩

set_option maxRecDepth 20000 in
set_option maxHeartbeats 4000000 in
theorem walkSnapAdds (X : Option Addr) (cx : Nat) (L : List (List Fv)) (w : World) (hX : RS w X 5 (L.map (·.map Fv.val))) (hL : L.length ≤ 9223372036854775807) (hR : ∀ r ∈ L, rowOk w [.int .u64, .int .u64, .int .i64, .bool, .bytes] r) :
    Calls Try.prog 11 #[.slice X L.length cx] w (Yes w) := by
  have S := Lib.hid snapAnswers
  have HX := Lib.hid hX
  have HR := Lib.hid hR
  clear hX hR
  go_enter Try.func11, Try.ntmps11
  go_wp2_with fail
  refine (joinNew _).mono ?_
  rintro e w2 ⟨rfl, hw2⟩
  have hJ2 : Jn w2 (w.heap.size + 2) w.heap.size 67 0 0 [] := by rw [hw2]; exact ⟨none, 0, Blk.new w _ _, OB.nil _ _⟩
  have hb2 : Below w.heap.size w w2 := by rw [hw2]; exact (Below.refl _ _).alloc (Nat.le_refl _) _
  have hs2 : w2.heap.size ≤ w.heap.size + 1 := by rw [hw2]; simp
  have hs2' : w.heap.size + 1 ≤ w2.heap.size := by rw [hw2]; simp
  obtain ⟨g, hg⟩ : ∃ g, g = w.heap.size := ⟨_, rfl⟩
  obtain ⟨u, hu⟩ : ∃ u, u = w2.heap.size := ⟨_, rfl⟩
  rw [← hg] at hJ2 hs2 hs2'
  clear hw2
  go_wp2_with fail
  rw [← hg]
  have hb3 : Below w2.heap.size w2 (w2.alloc (.cells #[.int .u64 0, .int .u64 0, .slice none 0 0] 49)) := (Below.refl _ _).alloc (Nat.le_refl _) _
  have hK3 : Jn (w2.alloc (.cells #[.int .u64 0, .int .u64 0, .slice none 0 0] 49)) (g + 2) u 49 0 0 [] := by rw [hu]; exact ⟨none, 0, Blk.new w2 _ _, OB.nil _ _⟩
  have hJ3 := hJ2.below hb3
  have hB3 := hb2.trans (hb3.mono hb2.size)
  have hs3 : g + 2 ≤ (w2.alloc (.cells #[.int .u64 0, .int .u64 0, .slice none 0 0] 49)).heap.size := by simp; omega
  rw [← hu]
  have hgu : g < u := by omega
  have hug : u < g + 2 := by omega
  have hwg : w.heap.size ≤ g := by omega
  clear hJ2 hb2 hb3 hs2 hs2' hu hg
  refine (S.out _).mono ?_
  rintro e w4 ⟨rfl, hb4⟩
  have hJ4 := hJ3.below hb4
  have hK4 := hK3.below hb4
  have hB4 := hB3.trans (hb4.mono hB3.size)
  have hs4 := Nat.le_trans hs3 hb4.size
  clear hJ3 hK3 hB3 hs3 hb4
  go_wp2_with fail
  go_loopw [5] (fun i wr => ∃ (k : Nat) (ji jt : Int) (h : List UInt8), k ≤ L.length ∧ i = .int .i64 (k : Int) ∧ h.length ≤ 32768 ∧ Jn wr (g + 2) g 67 ji jt h ∧ Jn wr (g + 2) u 49 ji jt h ∧ Below w.heap.size w wr ∧ g + 2 ≤ wr.heap.size)
    (fun i _ => L.length - (intOf i).toNat)
  case atStart => exact ⟨0, 0, 0, [], Nat.zero_le _, rfl, by simp, hJ4, hK4, hB4, hs4⟩
  case round =>
    obtain ⟨k, ji, jt, h, hk, rfl, hh, hJ, hK, hB, hs⟩ := hrel
    clear hJ4 hK4 hB4 hs4
    by_cases hlt : k < L.length
    · by_cases h200 : k < 200
      · obtain ⟨b, off, rfl, hbl, _⟩ := (HX.out.below hB).row (i := k) (by simpa using hlt)
        obtain ⟨pi, pt, po, pl, D, c, d, hrow, hpo, hD, hdc, hc9, hd⟩ := piece_row (HR.out L[k] (List.getElem_mem hlt))
        have HC : Hid (∀ w', Below w.heap.size w w' → ∀ j v, ([.int .u64 pi, .int .u64 pt, .int .i64 po, .bool pl, .slice D d.length c] : List Value)[j]? = some v → w'.cell? ⟨b, off + k * 5 + j, none⟩ = some v) := Lib.hid (fun w' hw' j v hj =>
          (HX.out.below hw').get (cs := [.int .u64 pi, .int .u64 pt, .int .i64 po, .bool pl, .slice D d.length c]) (by rw [List.getElem?_map, List.getElem?_eq_getElem hlt, hrow]; rfl) j hj)
        have c0 := HC.out wr hB 0 _ rfl
        have c1 := HC.out wr hB 1 _ rfl
        have c2 := HC.out wr hB 2 _ rfl
        have c3 := HC.out wr hB 3 _ rfl
        have c4 := HC.out wr hB 4 _ rfl
        rw [Nat.add_zero] at c0
        have k200 : (k : Int) < 200 := by omega
        have HD := Lib.hid hD
        clear hrow hbl hD
        go_wp2_with fail
        refine (snapPiece pi pt po pl D c d wr (HD.out.below hB) (by omega)).mono ?_
        rintro e w5 ⟨p, P, e', hp, hp1, hp2, rfl, hop, hb5⟩
        have hJ5 := hJ.below hb5
        have hK5 := hK.below hb5
        have hB5 := hB.trans (hb5.mono hB.size)
        have hs5 := Nat.le_trans hs hb5.size
        clear c0 c1 c2 c3 c4 hJ hK hB hb5
        go_wp2_with fail
        refine (joinAdd g ji jt h pi pt po pl P e' p (g + 2) w5 hJ5 hh (by omega) hs5 hop.rb (hop.far (.inl (by omega))) (by omega) hpo.1 hpo.2).mono ?_
        rintro e w6 ⟨n, wl, dn, er, ji', jt', h', Wx, cw, hR, hwl, hh', rfl, hJ6, hW6, hg6⟩
        have hR' := hR.out
        rw [hp.out] at hR'
        have HRR := Lib.hid hR'
        have hK6 := hK5.grown hg6 (by omega) (by omega)
        have hB6 := hB5.grown hg6 hB5.size (fun k hk => by injection hk with hk; omega)
        have hs6 := Nat.le_trans hs5 hg6.size
        have c0 := HC.out w6 hB6 0 _ rfl
        have c1 := HC.out w6 hB6 1 _ rfl
        have c2 := HC.out w6 hB6 2 _ rfl
        have c3 := HC.out w6 hB6 3 _ rfl
        have c4 := HC.out w6 hB6 4 _ rfl
        rw [Nat.add_zero] at c0
        clear hR hR' hp hJ5 hK5 hB5 hg6 hop
        go_wp2_with fail
        refine (rAdd u ji jt h pi pt po pl D c d (g + 2) w6 hK6 hh (by omega) hs6 (HD.out.below hB6) (hK6.far (HD.out.below hB6)) (by omega) hpo.1 hpo.2).mono ?_
        rintro e w7 ⟨n2, wl2, dn2, er2, ji2, jt2, h2, Wx2, cw2, hR2, hwl2, hh2, rfl, hK7, hW7, hg7⟩
        have hEq := HRR.out.trans hR2.out.symm
        injection hEq with e0 e1 e2 e3 e4 e5 e6
        subst e0 e1 e2 e3 e4 e5 e6
        have hJ7 := hJ6.grown hg7 (by omega) (by omega)
        have hWx7 := hW6.grown hg7 (hK6.far hW6)
        have hB7 := hB6.grown hg7 hB6.size (fun k hk => by injection hk with hk; omega)
        have hs7 := Nat.le_trans hs6 hg7.size
        clear c0 c1 c2 c3 c4 HRR hR2 hJ6 hW6 hK6 hB6 hg7
        go_wp2_with fail
        refine (joinHave g _ _ _ (g + 2) _ hJ7 (by omega)).mono ?_
        rintro e w8 ⟨rfl, hb8⟩
        have hJ8 := hJ7.below hb8
        have hK8 := hK7.below hb8
        have hB8 := hB7.trans (hb8.mono hB7.size)
        have hs8 := Nat.le_trans hs7 hb8.size
        have hc1 : (convert 23 9 (.slice Wx wl.length cw)).run Try.prog w8 = .ok (.string ⟨wl.toArray⟩) w8 := convB cw (hWx7.below hb8)
        have hc2 : (convert 23 9 (.slice Wx2 wl.length cw2)).run Try.prog w8 = .ok (.string ⟨wl.toArray⟩) w8 := convB cw2 (hW7.below hb8)
        obtain ⟨H, cH, hk8, ho8⟩ := hK8
        have d0 := hk8.cell 0 rfl
        have d1 := hk8.cell 1 rfl
        have d2 := hk8.cell 2 rfl
        have HK8 : Hid (Jn w8 (g + 2) u 49 ji' jt' h') := Lib.hid ⟨H, cH, hk8, ho8⟩
        clear hJ7 hK7 hB7 hb8 hWx7 hW7 hk8 ho8
        go_wp2_with fail
        go_roundw
        case rel => exact ⟨k + 1, ji', jt', h', by omega, by go_num, hh', hJ8, HK8.out, hB8, hs8⟩
        case measure => simp [intOf]; omega
      · have k200 : ¬ (k : Int) < 200 := by omega
        go_wp2_with fail
        go_ret
        exact ⟨rfl, hB⟩
    · go_wp2_with fail
      go_ret
      exact ⟨rfl, hB⟩
end Go.Proofs.Ytogcdbodlomgeaa
