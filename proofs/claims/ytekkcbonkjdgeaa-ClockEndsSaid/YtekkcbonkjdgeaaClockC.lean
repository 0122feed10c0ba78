/- Contracts of package clock: Tick, Copy. -/
import Derived.Test.YtekkcbonkjdgeaaClockB
import Derived.Laws.Tables
import Derived.Laws.Rows
namespace Go.Proofs.Ytekkcbonkjdgeaa
open Go.RowKit

theorem TM.step {bad : Obj → Prop} {w a b : World} {m : Nat} (h : TM bad w a) (hs : a.heap.size ≤ b.heap.size) (hk : ∀ i, i ≠ m → i < a.heap.size → b.heap[i]? = a.heap[i]?) (hm : ∀ o, a.heap[m]? = some o → bad o) : TM bad w b :=
  ⟨Nat.le_trans h.size hs, fun i o hi hb => by
    have h1 := h.block i o hi hb
    by_cases e : i = m
    · subst e; exact absurd (hm o h1) hb
    · rw [hk i e (lt_of_block h1)]; exact h1⟩
theorem TM.wset {bad : Obj → Prop} {w a : World} {m : Nat} (h : TM bad w a) (hm : ∀ o, a.heap[m]? = some o → bad o) (ob : Obj) : TM bad w (wset a m ob) :=
  h.step (by rw [wset_size]; exact Nat.le_refl _) (fun i hi _ => wset_other a m ob i hi) hm
theorem TM.setCellT {bad : Obj → Prop} {w a : World} {p : Addr} (h : TM bad w a) (hm : ∀ o, a.heap[p.block]? = some o → bad o) (v : Value) : TM bad w (a.setCell p v) :=
  h.step (by simp [World.setCell]) (fun i hi _ => Below.heap_setCell a p v i hi) hm
theorem below_setCell {B : Nat} {w a : World} {p : Addr} (h : Below B w a) (hp : B ≤ p.block) (v : Value) : Below B w (a.setCell p v) := h.setCell hp v
theorem MapAt.isMap {K : Type} {kv : K → Value} {w : World} {m : Nat} {es : List (K × Value)} (h : MapAt kv w m es) : ∀ o, w.heap[m]? = some o → ∃ a b, o = .map a b := by
  intro o ho
  obtain ⟨es0, clock, hm, _⟩ := h.size
  rw [hm] at ho
  injection ho with ho
  exact ⟨_, _, ho.symm⟩

/-- What Tick answers, and the clocks behind it. -/
def tickE (s : Clk) (x k : Int) : Int := if k < 0 ∨ 1099511627776 < k then 1 else if inE s.nodes s.edges x = true then (if 1152921504606846976 < s.T x + k then 3 else 0) else 1
def tickS (s : Clk) (x k : Int) : Clk := if tickE s x k = 0 then { s with T := fun y => if y = x then s.T x + k else s.T y, skew := s.skew || decide (0 < k) } else s

section
variable {n : Nat} {w : World} {g : Nat} {s : Clk}
theorem tick_same {x k er : Int} (h : CI n w g s) (hn : n ≤ w.heap.size) (he : tickE s x k = er) (hne : er ≠ 0) : (Ending.returned (.int .i64 er) = .returned (.int .i64 (tickE s x k))) ∧ CI n w g (tickS s x k) ∧ Keep badC n w w := by
  refine ⟨by rw [he], ?_, .refl _ _ _⟩
  rw [tickS, he, if_neg hne]
  exact h

set_option maxRecDepth 20000 in
set_option maxHeartbeats 4000000 in
theorem clockTick (x k : Int) (h : CI n w g s) (hn : n ≤ w.heap.size) : Calls Try.prog 37 #[.pointer (some ⟨g, 0, none⟩), .int .i64 x, .int .i64 k] w fun e w' => e = .returned (.int .i64 (tickE s x k)) ∧ CI n w' g (tickS s x k) ∧ Keep badC n w w' := by
  by_cases h0 : k < 0
  · have HF := Lib.hid (tick_same (x := x) (k := k) h hn (by rw [tickE, if_pos (.inl h0)]) (by decide))
    clear h
    go_enter Try.func37, Try.ntmps37
    go_wp2_with fail
    go_ret
    exact HF.out
  by_cases h1 : 1099511627776 < k
  · have HF := Lib.hid (tick_same (x := x) (k := k) h hn (by rw [tickE, if_pos (.inr h1)]) (by decide))
    clear h
    go_enter Try.func37, Try.ntmps37
    go_wp2_with fail
    go_ret
    exact HF.out
  have hk : ¬ (k < 0 ∨ 1099511627776 < k) := by omega
  have H := Lib.hid h
  have hok := h.ok
  obtain ⟨m, es, hb, hmap, hes, hnm, _⟩ := h
  have c0 := hb.cell 0 rfl
  by_cases hx : inE s.nodes s.edges x = true
  · have hl := run_lookup_hit (P := Try.prog) intLaw hmap Try.underlying80 (k := x) (v := .int .i64 (s.T x)) (by rw [hes, Clk.mapOf, if_pos hx]) true
    rw [if_pos rfl] at hl
    obtain ⟨t1, t2⟩ := hok.2.2.2.2 x hx
    by_cases hov : 1152921504606846976 < s.T x + k
    · have HF := Lib.hid (tick_same (x := x) (k := k) H.out hn (by rw [tickE, if_neg hk, if_pos hx, if_pos hov]) (by decide))
      generalize s.T x = t at *
      clear hb hmap hes hok H hx
      go_enter Try.func37, Try.ntmps37
      go_wp2_with fail
      go_ret
      exact HF.out
    · have he : tickE s x k = 0 := by rw [tickE, if_neg hk, if_pos hx, if_neg hov]
      have HFIN : Hid (∀ (w' : World) (b : Bool), b = (s.skew || decide (0 < k)) → Blk w' g 82 #[.map (some m), .int .i64 s.nodes, .int .i64 s.edges, .int .i64 s.rho, .int .i64 s.real, .bool b] → MapAt (Value.int .i64) w' m (mput es x (.int .i64 (s.T x + k))) → CI n w' g (tickS s x k)) := Lib.hid fun w' b hbb h1 h2 => by
        rw [tickS, if_pos he]
        refine ⟨m, _, by rw [← hbb]; exact h1, h2, fun y => ?_, hnm, hok.1, hok.2.1, hok.2.2.1, hok.2.2.2.1, fun y hy => ?_⟩
        · rw [mget_mputV, hes]
          unfold Clk.mapOf
          by_cases hy : y = x
          · subst hy
            rw [if_pos rfl, if_pos hx]
            simp
          · rw [if_neg hy]
            simp only [if_neg hy]
        · simp only
          by_cases hyx : y = x
          · subst hyx
            rw [if_pos rfl]
            omega
          · rw [if_neg hyx]
            exact hok.2.2.2.2 y hy
      have hgm : g ≠ m := (hmap.ne_cells (show w.heap[g]? = some (.cells _ _ (0, 0)) from hb)).symm
      have HF2 : Hid (∀ (ob : Obj) (b : Bool), b = (s.skew || decide (0 < k)) → MapAt (Value.int .i64) (wset w m ob) m (mput es x (.int .i64 (s.T x + k))) →
          (Ending.returned (.int .i64 0) = .returned (.int .i64 (tickE s x k))) ∧ CI n ((wset w m ob).setCell ⟨g, 5, none⟩ (.bool b)) g (tickS s x k) ∧ Keep badC n w ((wset w m ob).setCell ⟨g, 5, none⟩ (.bool b))) := Lib.hid fun ob b hbb hm2 => by
        have hblk2 := hb.wset_ne hgm ob
        refine ⟨by rw [he], HFIN.out _ b hbb (hblk2.setCell 5 (.bool b)) (hm2.setCell (p := ⟨g, 5, none⟩) (Ne.symm hgm) (.bool b)), below_setCell (p := ⟨g, 5, none⟩) (below_wset (Below.refl _ _) hnm.2 ob) hnm.1 _, (TM.wset (TM.refl _ _) (fun o ho => ?_) ob).setCellT (p := ⟨g, 5, none⟩) (fun o ho => ?_) _⟩
        · obtain ⟨a, b, rfl⟩ := hmap.isMap o ho
          trivial
        · rw [show (wset w m ob).heap[g]? = _ from hblk2] at ho
          injection ho with ho
          subst ho
          exact rfl
      have HMAP := Lib.hid hmap
      have HB := Lib.hid hb
      clear HFIN
      generalize s.T x = t at *
      generalize s.nodes = nd at *
      generalize s.edges = ed at *
      generalize s.rho = rh at *
      generalize s.real = rl at *
      cases hs : s.skew
      all_goals
        rw [hs] at HF2 hb HB
        clear hmap hes hok H hx he hs
        by_cases hk0 : 0 < k
        all_goals
          go_enter Try.func37, Try.ntmps37
          go_wp2_with (at_mapUpdate; refine wp_mapUpdateT _ rfl intLaw HMAP.out (.tmp 39) (.tmp 40) (.tmp 43) rfl Try.underlying80 x (.int .i64 (t + k)) rfl rfl rfl ?_; intro ob hmap2; have hblk2 := HB.out.wset_ne hgm ob; clear c0 hl; have c5 := hblk2.cell 5 rfl; have f5 := hblk2.free 5)
          go_ret
          exact HF2.out ob _ (by simp [hk0]) hmap2
  · have hl := run_lookup_miss (P := Try.prog) intLaw hmap Try.underlying80 (zero_i64 w) (k := x) (by rw [hes, Clk.mapOf, if_neg hx]) true
    rw [if_pos rfl] at hl
    have HF := Lib.hid (tick_same (x := x) (k := k) H.out hn (by rw [tickE, if_neg hk, if_neg hx]) (by decide))
    clear hb hmap hes hok H hx
    go_enter Try.func37, Try.ntmps37
    go_wp2_with fail
    go_ret
    exact HF.out
end
end Go.Proofs.Ytekkcbonkjdgeaa
