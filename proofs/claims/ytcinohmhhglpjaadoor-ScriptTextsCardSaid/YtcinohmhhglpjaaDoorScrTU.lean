/- ScrTU: put together by merge.py of: ScrTR, ScrTU. -/
import Derived.Test.YtcinohmhhglpjaaDoorScrTT
import Derived.Test.YtcinohmhhglpjaaDoorScrTP
import Derived.Test.YtcinohmhhglpjaaDoorScrQ
import Derived.Test.YtcinohmhhglpjaaDoorScrQt
/- Contract of the reference's ToSetting (printed by gen_scrtr.py). -/
namespace Go.Proofs.YtcinohmhhglpjaaDoor
open Go.RowKit

/-- What the reference's ToSetting answers. -/
def RefSetE (s : List UInt8) (w : World) (e : Ending) (w' : World) : Prop :=
  e = .returned (.tuple #[.agg (match readSetting s with | some zs => (zs.map (Value.int .i64)).toArray | none => #[.int .i64 0, .int .i64 0, .int .i64 0, .int .i64 0, .int .i64 0, .int .i64 0, .int .i64 0, .int .i64 0, .int .i64 0, .int .i64 0]), .bool (readSetting s).isSome]) ∧ Below w.heap.size w w'
theorem refSetE_no {s : List UInt8} {w w' : World} (h : readSetting s = none) (hb : Below w.heap.size w w') : RefSetE s w (.returned (.tuple #[.agg #[.int .i64 0, .int .i64 0, .int .i64 0, .int .i64 0, .int .i64 0, .int .i64 0, .int .i64 0, .int .i64 0, .int .i64 0, .int .i64 0], .bool false])) w' := by
  unfold RefSetE; rw [h]; exact ⟨rfl, hb⟩
theorem refSetE_yes {s : List UInt8} {w w' : World} {zs : List Int} {cs : Array Value} (h : readSetting s = some zs) (hv : cs = (zs.map (Value.int .i64)).toArray) (hb : Below w.heap.size w w') : RefSetE s w (.returned (.tuple #[.agg cs, .bool true])) w' := by
  subst hv; unfold RefSetE; rw [h]; exact ⟨rfl, hb⟩
theorem rv_setCell {w : World} {A : Option Addr} {xs : List Value} {p : Addr} (h : RV w A xs) (hb : ∀ b, A.map (·.block) = some b → b ≠ p.block) (v : Value) : RV (w.setCell p v) A xs := by
  refine ⟨fun hn => ?_⟩
  obtain ⟨b, off, rfl, hlt, hc⟩ := h.at_ hn
  exact ⟨b, off, rfl, by simpa [World.setCell] using hlt, fun j x hx => (World.cell?_of_block (w := w) (a := ⟨b, off + j, none⟩) (Below.heap_setCell w p v b (hb b rfl))).trans (hc j x hx)⟩
/-- The array: nothing at 0, the numbers so far, nothing. -/
def arrL (vs : List Int) : List Value := ((0 : Int) :: vs ++ List.replicate (10 - vs.length) 0).map (Value.int .i64)
theorem arrL_set {vs : List Int} (h : vs.length < 10) (v : Int) : (arrL vs).toArray.setIfInBounds (vs.length + 1) (.int .i64 v) = (arrL (vs ++ [v])).toArray := by
  unfold arrL
  rw [List.setIfInBounds_toArray]
  congr 1
  obtain ⟨m, hm⟩ : ∃ m, 10 - vs.length = m + 1 := ⟨9 - vs.length, by omega⟩
  rw [hm, show 10 - (vs ++ [v]).length = m by simp; omega, List.replicate_succ]
  simp only [List.cons_append, List.map_cons, List.map_append, List.set_cons_succ, List.map_nil, List.append_assoc, List.nil_append]
  congr 1
  rw [List.set_append_right _ _ (by simp)]
  simp
theorem arrL_at {vs : List Int} (h : vs.length < 10) : (arrL vs)[vs.length + 1]? = some (.int .i64 0) := by
  unfold arrL
  obtain ⟨m, hm⟩ : ∃ m, 10 - vs.length = m + 1 := ⟨9 - vs.length, by omega⟩
  rw [hm, List.replicate_succ]
  simp

set_option maxRecDepth 20000 in
set_option maxHeartbeats 4000000 in
theorem refToSetting (s : List UInt8) (hs : s.length ≤ 4294967280) (w : World) : Calls Tryd.prog 57 #[.string ⟨s.toArray⟩] w (RefSetE s w) := by
  have hlen : ∀ x ∈ parts 32 s, x.length ≤ 140737488351232 := fun x hx => by have := parts_len 32 s x hx; omega
  have HLEN := Lib.hid hlen
  have CW := Lib.hid (refWords s hs)
  unfold WordsE at CW
  have HNO := Lib.hid (fun h => readSetting_len (s := s) h)
  have HINT := Lib.hid (fun (x : List UInt8) (l : List (List UInt8)) h => readSetting_ints (s := s) (w := x) (l := l) h)
  generalize parts 32 s = L at *
  have hb0 : Below w.heap.size w (w.alloc (.cells #[.int .i64 0, .int .i64 0, .int .i64 0, .int .i64 0, .int .i64 0, .int .i64 0, .int .i64 0, .int .i64 0, .int .i64 0, .int .i64 0] 23)) := (Below.refl _ _).alloc (Nat.le_refl _) _
  have HX0 := Lib.hid (Blk.new w #[.int .i64 0, .int .i64 0, .int .i64 0, .int .i64 0, .int .i64 0, .int .i64 0, .int .i64 0, .int .i64 0, .int .i64 0, .int .i64 0] 23)
  have HB0 := Lib.hid hb0
  clear hb0 hlen
  by_cases hl : L.length = 11
  · match L, hl with
    | w0 :: ws, hl =>
    have hws : ws.length = 10 := by simpa using hl
    clear HNO
    by_cases h0 : w0 = setWord
    · have HRS : Hid (readSetting s = moreInts 10 ws []) := Lib.hid (by rw [HINT.out w0 ws rfl, if_pos h0])
      clear HINT
      subst h0
      go_enter Tryd.func57, Tryd.ntmps57
      go_wp2_with (go_at_call 45; refine (CW.out _).mono ?_)
      first | rintro e w1 ⟨b1, A, c, rfl, hr⟩ | rintro e w1 b1 A c rfl hr
      have HB1 := Lib.hid (HB0.out.trans (b1.mono HB0.out.size))
      have HX1 := Lib.hid (HX0.out.kept b1)
      have HR := Lib.hid hr
      obtain ⟨ba, off, rfl, hbl, hd0⟩ := hr.cell (j := 0) (by simp [svals])
      simp only [svals, List.map_cons, List.getElem_cons_zero, Nat.add_zero] at hd0
      have hl' : (setWord :: ws).length = 11 := hl
      have hk1 := HB1.out.size
      have hxl := HX1.out.lt
      clear b1 hr HB0 HX0 CW
      rw [hl']
      unfold setWord at hd0
      generalize hn5 : w1.heap.size = n5
      go_wp2_with fail
      have HA1 : Hid (Blk (w1.alloc (.cells (arrL []).toArray 129)) n5 129 (arrL []).toArray) := Lib.hid (by rw [← hn5]; exact Blk.new _ _ _)
      have hal : Below w1.heap.size w1 (w1.alloc (.cells (arrL []).toArray 129)) := (Below.refl _ _).alloc (Nat.le_refl _) _
      have HB2 := Lib.hid (HB1.out.trans (hal.mono HB1.out.size))
      have HX2 := Lib.hid (HX1.out.kept hal)
      have HR2 := Lib.hid (HR.out.below hal)
      clear hal hd0
      go_loopw [6] (fun i wr => ∃ vs : List Int, vs.length ≤ 10 ∧ i = .int .i64 ((vs.length + 1 : Nat) : Int) ∧ Hid (readSetting s = moreInts (10 - vs.length) (ws.drop vs.length) vs) ∧ Hid (∀ v ∈ vs, InI v) ∧ Hid (RV wr (some ⟨ba, off, none⟩) (svals (setWord :: ws))) ∧ Hid (Blk wr n5 129 (arrL vs).toArray) ∧ Hid (Blk wr w.heap.size 23 #[.int .i64 0, .int .i64 0, .int .i64 0, .int .i64 0, .int .i64 0, .int .i64 0, .int .i64 0, .int .i64 0, .int .i64 0, .int .i64 0]) ∧ Hid (Below w.heap.size w wr)) (fun i _ => 12 - (intOf i).toNat)
      case atStart => exact ⟨[], by simp, rfl, HRS, Lib.hid (by simp), HR2, HA1, HX2, HB2⟩
      case round =>
        clear HRS HR2 HA1 HX2 HB2 HB1 HX1 HR
        obtain ⟨vs, hv, rfl, HS, HI, HRR, HAR, HZ, HB⟩ := hrel
        by_cases hlt : vs.length < 10
        · have hj : vs.length < ws.length := by omega
          obtain ⟨b', off', e', hbl', hd⟩ := HRR.out.cell (j := vs.length + 1) (by simp [svals]; omega)
          injection e' with e'
          injection e' with e1 e2
          subst e1 e2
          simp only [svals, List.map_cons, List.getElem_cons_succ, List.getElem_map] at hd
          have hsplit : ws.drop vs.length = ws[vs.length] :: ws.drop (vs.length + 1) := List.drop_eq_getElem_cons hj
          rw [hsplit, show 10 - vs.length = (9 - vs.length) + 1 by omega] at HS
          have CI := Lib.hid (refInt ws[vs.length] (HLEN.out _ (List.mem_cons_of_mem _ (List.getElem_mem hj))))
          generalize ws[vs.length] = x at *
          have hki : (vs.length : Int) + 1 < 11 := by omega
          have hki0 : (0 : Int) ≤ (vs.length : Int) + 1 := by omega
          cases hx : pint x with
          | none =>
            have HRES : Hid (readSetting s = none) := Lib.hid (by rw [HS.out, moreInts_no hx])
            have HXN := Lib.hid hx
            clear hx HS hsplit HI
            go_wp2_with (go_at_call 46; refine (CI.out _).mono ?_)
            intro e x1 hpp; unfold IntE at hpp; rw [HXN.out] at hpp; obtain ⟨b1, n, hn, rfl, _⟩ := hpp
            simp only [Option.isSome_none]
            have HB1 := Lib.hid (HB.out.trans (b1.mono HB.out.size))
            have HZ1 := Lib.hid (HZ.out.kept b1)
            obtain ⟨hb2, hx2⟩ := set_in #[.int .i64 0, .int .i64 0, .int .i64 0, .int .i64 0, .int .i64 0, .int .i64 0, .int .i64 0, .int .i64 0, .int .i64 0, .int .i64 0] HB1.out HZ1.out (Nat.le_refl _)
            have HB2 := Lib.hid hb2
            have HX2 := Lib.hid hx2
            clear b1 hb2 hx2 HB HZ HRR HAR hd
            go_wp2_with (refine wpList_store_row rfl 23 (.tmp 2) (.tmp 35) rfl w.heap.size #[.int .i64 0, .int .i64 0, .int .i64 0, .int .i64 0, .int .i64 0, .int .i64 0, .int .i64 0, .int .i64 0, .int .i64 0, .int .i64 0] rfl rfl _ _ HZ1.out set_size' rfl (by simp [Value.oneCell']) ?_)
            have y0 := HX2.out.cell 0 rfl; have y1 := HX2.out.cell 1 rfl; have y2 := HX2.out.cell 2 rfl; have y3 := HX2.out.cell 3 rfl; have y4 := HX2.out.cell 4 rfl; have y5 := HX2.out.cell 5 rfl; have y6 := HX2.out.cell 6 rfl; have y7 := HX2.out.cell 7 rfl; have y8 := HX2.out.cell 8 rfl; have y9 := HX2.out.cell 9 rfl
            refine bodyPost_ret (v := .tuple #[.agg #[.int .i64 0, .int .i64 0, .int .i64 0, .int .i64 0, .int .i64 0, .int .i64 0, .int .i64 0, .int .i64 0, .int .i64 0, .int .i64 0], .bool false]) (by simp [results, Tryd.results57, go_sem, y0, y1, y2, y3, y4, y5, y6, y7, y8, y9]) rfl ?_
            exact refSetE_no HRES.out HB2.out
          | some v =>
            have HS2 : Hid (readSetting s = moreInts (10 - (vs ++ [v]).length) (ws.drop (vs ++ [v]).length) (vs ++ [v])) := Lib.hid (by rw [HS.out, moreInts_yes hx]; simp [show 10 - (vs.length + 1) = 9 - vs.length by omega])
            have hvi : InI v := ⟨(pint_some hx).2.1, (pint_some hx).2.2⟩
            have HI2 : Hid (∀ z ∈ vs ++ [v], InI z) := Lib.hid (fun z hz => by
              rcases List.mem_append.1 hz with hz | hz
              · exact HI.out z hz
              · rw [List.mem_singleton] at hz; subst hz; exact hvi)
            have HXN := Lib.hid hx
            clear hx HS hsplit HI
            go_wp2_with (go_at_call 46; refine (CI.out _).mono ?_)
            intro e x1 hpp; unfold IntE at hpp; rw [HXN.out] at hpp; obtain ⟨b1, n, hn, rfl, hnv⟩ := hpp
            obtain rfl : n = v := hnv v rfl
            simp only [Option.isSome_some]
            have HB1 := Lib.hid (HB.out.trans (b1.mono HB.out.size))
            have HZ1 := Lib.hid (HZ.out.kept b1)
            have HR1 := Lib.hid (HRR.out.below b1)
            have ha1 := HAR.out.kept b1
            have q0 := ha1.free (vs.length + 1)
            have q1 := ha1.cell (vs.length + 1) (v := .int .i64 0) (by simpa using arrL_at hlt)
            have HA1 := Lib.hid ha1
            clear b1 HB HZ HRR HAR hd ha1
            go_wp2_with fail
            have HA2 : Hid (Blk (x1.setCell ⟨n5, vs.length + 1, none⟩ (.int .i64 n)) n5 129 (arrL (vs ++ [n])).toArray) := Lib.hid (by
              have := HA1.out.setCell (vs.length + 1) (.int .i64 n)
              rwa [arrL_set hlt] at this)
            have HR2 := Lib.hid (rv_setCell (p := ⟨n5, vs.length + 1, none⟩) HR1.out (fun b hb => by simp at hb; simp only; omega) (.int .i64 n))
            have HZ2 := Lib.hid (HZ1.out.setCell_other (a := ⟨n5, vs.length + 1, none⟩) (.int .i64 n) (by simp only; omega))
            have HB2 := Lib.hid (HB1.out.setCell (p := ⟨n5, vs.length + 1, none⟩) (by simp only; omega) (.int .i64 n))
            have hvl : (vs ++ [n]).length = vs.length + 1 := by simp
            have hcast : (.int .i64 ((vs.length : Int) + 1 + 1) : Value) = .int .i64 (((vs ++ [n]).length + 1 : Nat) : Int) := by rw [hvl]; push_cast; rfl
            clear HA1 HR1 HZ1 HB1 q0 q1
            go_roundw
            case rel => exact ⟨vs ++ [n], by omega, hcast, HS2, HI2, HR2, HA2, HZ2, HB2⟩
            case measure => simp [intOf]; omega
        · have hv10 : vs.length = 10 := by omega
          have HRES : Hid (readSetting s = some vs) := Lib.hid (by rw [HS.out, hv10, List.drop_of_length_le (by omega), Nat.sub_self, moreInts_end])
          clear HS HI HRR
          match vs, hv10 with
          | [g1, g2, g3, g4, g5, g6, g7, g8, g9, g10], _ =>
          simp only [arrL, List.length_cons, List.length_nil, List.cons_append, List.map_cons, List.map_nil, Nat.reduceAdd, Nat.sub_self, List.replicate_zero, List.append_nil] at HAR
          have d0 := HAR.out.cell 1 rfl; have d1 := HAR.out.cell 2 rfl; have d2 := HAR.out.cell 3 rfl; have d3 := HAR.out.cell 4 rfl; have d4 := HAR.out.cell 5 rfl; have d5 := HAR.out.cell 6 rfl; have d6 := HAR.out.cell 7 rfl; have d7 := HAR.out.cell 8 rfl; have d8 := HAR.out.cell 9 rfl; have d9 := HAR.out.cell 10 rfl
          obtain ⟨hb2, hx2⟩ := set_in #[.int .i64 g1, .int .i64 g2, .int .i64 g3, .int .i64 g4, .int .i64 g5, .int .i64 g6, .int .i64 g7, .int .i64 g8, .int .i64 g9, .int .i64 g10] HB.out HZ.out (Nat.le_refl _)
          have HB2 := Lib.hid hb2
          have HX2 := Lib.hid hx2
          clear hb2 hx2 HB HAR
          go_wp2_with (refine wpList_store_row rfl 23 (.tmp 2) (.tmp 59) rfl w.heap.size #[.int .i64 g1, .int .i64 g2, .int .i64 g3, .int .i64 g4, .int .i64 g5, .int .i64 g6, .int .i64 g7, .int .i64 g8, .int .i64 g9, .int .i64 g10] rfl rfl _ _ HZ.out set_size' rfl (by simp [Value.oneCell']) ?_)
          have y0 := HX2.out.cell 0 rfl; have y1 := HX2.out.cell 1 rfl; have y2 := HX2.out.cell 2 rfl; have y3 := HX2.out.cell 3 rfl; have y4 := HX2.out.cell 4 rfl; have y5 := HX2.out.cell 5 rfl; have y6 := HX2.out.cell 6 rfl; have y7 := HX2.out.cell 7 rfl; have y8 := HX2.out.cell 8 rfl; have y9 := HX2.out.cell 9 rfl
          refine bodyPost_ret (v := .tuple #[.agg #[.int .i64 g1, .int .i64 g2, .int .i64 g3, .int .i64 g4, .int .i64 g5, .int .i64 g6, .int .i64 g7, .int .i64 g8, .int .i64 g9, .int .i64 g10], .bool true]) (by simp [results, Tryd.results57, go_sem, y0, y1, y2, y3, y4, y5, y6, y7, y8, y9]) rfl ?_
          exact refSetE_yes HRES.out rfl HB2.out
    · have HRES : Hid (readSetting s = none) := Lib.hid (by rw [HINT.out w0 ws rfl, if_neg h0])
      clear HINT
      go_enter Tryd.func57, Tryd.ntmps57
      go_wp2_with (go_at_call 45; refine (CW.out _).mono ?_)
      first | rintro e w1 ⟨b1, A, c, rfl, hr⟩ | rintro e w1 b1 A c rfl hr
      have HB1 := Lib.hid (HB0.out.trans (b1.mono HB0.out.size))
      have HX1 := Lib.hid (HX0.out.kept b1)
      obtain ⟨ba, off, rfl, hbl, hd0⟩ := hr.cell (j := 0) (by simp [svals])
      simp only [svals, List.map_cons, List.getElem_cons_zero, Nat.add_zero] at hd0
      rw [hl]
      have hw0 : (w0 == [115, 101, 116, 116, 105, 110, 103]) = false := str_ne_of h0
      obtain ⟨hb2, hx2⟩ := set_in #[.int .i64 0, .int .i64 0, .int .i64 0, .int .i64 0, .int .i64 0, .int .i64 0, .int .i64 0, .int .i64 0, .int .i64 0, .int .i64 0] HB1.out HX1.out (Nat.le_refl _)
      have HB2 := Lib.hid hb2
      have HX2 := Lib.hid hx2
      clear b1 hr hb2 hx2 HB0 HX0 CW HB1
      go_wp2_with (refine wpList_store_row rfl 23 (.tmp 2) (.tmp 20) rfl w.heap.size #[.int .i64 0, .int .i64 0, .int .i64 0, .int .i64 0, .int .i64 0, .int .i64 0, .int .i64 0, .int .i64 0, .int .i64 0, .int .i64 0] rfl rfl _ _ HX1.out set_size' rfl (by simp [Value.oneCell']) ?_)
      have y0 := HX2.out.cell 0 rfl; have y1 := HX2.out.cell 1 rfl; have y2 := HX2.out.cell 2 rfl; have y3 := HX2.out.cell 3 rfl; have y4 := HX2.out.cell 4 rfl; have y5 := HX2.out.cell 5 rfl; have y6 := HX2.out.cell 6 rfl; have y7 := HX2.out.cell 7 rfl; have y8 := HX2.out.cell 8 rfl; have y9 := HX2.out.cell 9 rfl
      refine bodyPost_ret (v := .tuple #[.agg #[.int .i64 0, .int .i64 0, .int .i64 0, .int .i64 0, .int .i64 0, .int .i64 0, .int .i64 0, .int .i64 0, .int .i64 0, .int .i64 0], .bool false]) (by simp [results, Tryd.results57, go_sem, y0, y1, y2, y3, y4, y5, y6, y7, y8, y9]) rfl ?_
      exact refSetE_no HRES.out HB2.out
  · have HRES : Hid (readSetting s = none) := Lib.hid (HNO.out hl)
    clear HNO HINT HLEN
    go_enter Tryd.func57, Tryd.ntmps57
    go_wp2_with (go_at_call 45; refine (CW.out _).mono ?_)
    first | rintro e w1 ⟨b1, A, c, rfl, hr⟩ | rintro e w1 b1 A c rfl hr
    have HB1 := Lib.hid (HB0.out.trans (b1.mono HB0.out.size))
    have HX1 := Lib.hid (HX0.out.kept b1)
    have hlb : ((L.length : Int) != 11) = true := by rw [bne_iff_ne]; omega
    obtain ⟨hb2, hx2⟩ := set_in #[.int .i64 0, .int .i64 0, .int .i64 0, .int .i64 0, .int .i64 0, .int .i64 0, .int .i64 0, .int .i64 0, .int .i64 0, .int .i64 0] HB1.out HX1.out (Nat.le_refl _)
    have HB2 := Lib.hid hb2
    have HX2 := Lib.hid hx2
    clear b1 hr hb2 hx2 HB0 HX0 CW HB1
    go_wp2_with (refine wpList_store_row rfl 23 (.tmp 2) (.tmp 20) rfl w.heap.size #[.int .i64 0, .int .i64 0, .int .i64 0, .int .i64 0, .int .i64 0, .int .i64 0, .int .i64 0, .int .i64 0, .int .i64 0, .int .i64 0] rfl rfl _ _ HX1.out set_size' rfl (by simp [Value.oneCell']) ?_)
    have y0 := HX2.out.cell 0 rfl; have y1 := HX2.out.cell 1 rfl; have y2 := HX2.out.cell 2 rfl; have y3 := HX2.out.cell 3 rfl; have y4 := HX2.out.cell 4 rfl; have y5 := HX2.out.cell 5 rfl; have y6 := HX2.out.cell 6 rfl; have y7 := HX2.out.cell 7 rfl; have y8 := HX2.out.cell 8 rfl; have y9 := HX2.out.cell 9 rfl
    refine bodyPost_ret (v := .tuple #[.agg #[.int .i64 0, .int .i64 0, .int .i64 0, .int .i64 0, .int .i64 0, .int .i64 0, .int .i64 0, .int .i64 0, .int .i64 0, .int .i64 0], .bool false]) (by simp [results, Tryd.results57, go_sem, y0, y1, y2, y3, y4, y5, y6, y7, y8, y9]) rfl ?_
    exact refSetE_no HRES.out HB2.out
end Go.Proofs.YtcinohmhhglpjaaDoor
/- Contract of the reference's ToScript (printed by gen_scrtr.py). -/
namespace Go.Proofs.YtcinohmhhglpjaaDoor
open Go.RowKit

set_option maxRecDepth 20000 in
set_option maxHeartbeats 4000000 in
theorem refToScriptL (t : List UInt8) (w : World) (hl : 65536 < t.length) : Calls Tryd.prog 20 #[.string ⟨t.toArray⟩] w (ToScrE t w) := by
  have hb0 : Below w.heap.size w (w.alloc (.cells #[.int .i64 0, .int .i64 0, .int .i64 0, .int .i64 0, .int .i64 0, .int .i64 0, .int .i64 0, .int .i64 0, .int .i64 0, .int .i64 0] 23)) := (Below.refl _ _).alloc (Nat.le_refl _) _
  have HX0 := Lib.hid (Blk.new w #[.int .i64 0, .int .i64 0, .int .i64 0, .int .i64 0, .int .i64 0, .int .i64 0, .int .i64 0, .int .i64 0, .int .i64 0, .int .i64 0] 23)
  obtain ⟨hb2, hx2⟩ := set_in #[.int .i64 0, .int .i64 0, .int .i64 0, .int .i64 0, .int .i64 0, .int .i64 0, .int .i64 0, .int .i64 0, .int .i64 0, .int .i64 0] hb0 HX0.out (Nat.le_refl _)
  have HB2 := Lib.hid hb2
  have HX2 := Lib.hid hx2
  have HL := Lib.hid hl
  clear hb0 hb2 hx2
  go_enter Tryd.func20, Tryd.ntmps20
  go_wp2_with (refine wpList_store_row rfl 23 (.tmp 2) (.tmp 16) rfl w.heap.size #[.int .i64 0, .int .i64 0, .int .i64 0, .int .i64 0, .int .i64 0, .int .i64 0, .int .i64 0, .int .i64 0, .int .i64 0, .int .i64 0] rfl rfl _ _ HX0.out set_size' rfl (by simp [Value.oneCell']) ?_)
  have y0 := HX2.out.cell 0 rfl; have y1 := HX2.out.cell 1 rfl; have y2 := HX2.out.cell 2 rfl; have y3 := HX2.out.cell 3 rfl; have y4 := HX2.out.cell 4 rfl; have y5 := HX2.out.cell 5 rfl; have y6 := HX2.out.cell 6 rfl; have y7 := HX2.out.cell 7 rfl; have y8 := HX2.out.cell 8 rfl; have y9 := HX2.out.cell 9 rfl
  refine bodyPost_ret (v := .tuple #[.agg #[.int .i64 0, .int .i64 0, .int .i64 0, .int .i64 0, .int .i64 0, .int .i64 0, .int .i64 0, .int .i64 0, .int .i64 0, .int .i64 0], .slice none 0 0, .int .i64 0, .int .i64 7]) (by simp [results, Tryd.results20, go_sem, y0, y1, y2, y3, y4, y5, y6, y7, y8, y9]) rfl ?_
  exact toScrE_large HL.out HB2.out
theorem read_parts {t : List UInt8} (hl : t.length ≤ 65536) : readScript t = readParts (parts 10 t) := by unfold readScript; rw [if_neg (by omega)]

set_option maxRecDepth 20000 in
set_option maxHeartbeats 8000000 in
theorem refToScriptS (t : List UInt8) (w : World) (hl : t.length ≤ 65536) : Calls Tryd.prog 20 #[.string ⟨t.toArray⟩] w (ToScrE t w) := by
  obtain ⟨i0, hi0, hz0, hz1, hz2⟩ := info_parts act_info
  have HRP := Lib.hid (read_parts hl)
  have hla : ¬ (65536 < (t.length : Int)) := by omega
  obtain ⟨w0, hw0⟩ : ∃ w0, w0 = w.alloc (.cells #[.int .i64 0, .int .i64 0, .int .i64 0, .int .i64 0, .int .i64 0, .int .i64 0, .int .i64 0, .int .i64 0, .int .i64 0, .int .i64 0] 23) := ⟨_, rfl⟩
  have hs0 : w0.heap.size = w.heap.size + 1 := by rw [hw0]; simp
  have hb0 : Below w.heap.size w w0 := by rw [hw0]; exact (Below.refl _ _).alloc (Nat.le_refl _) _
  have hx0 : Blk w0 w.heap.size 23 #[.int .i64 0, .int .i64 0, .int .i64 0, .int .i64 0, .int .i64 0, .int .i64 0, .int .i64 0, .int .i64 0, .int .i64 0, .int .i64 0] := by rw [hw0]; exact Blk.new w #[.int .i64 0, .int .i64 0, .int .i64 0, .int .i64 0, .int .i64 0, .int .i64 0, .int .i64 0, .int .i64 0, .int .i64 0, .int .i64 0] 23
  have HN : Hid (Blk (w0.alloc (.cells #[.int .i64 0, .int .i64 0, .int .i64 0, .int .i64 0, .int .i64 0, .int .i64 0, .int .i64 0, .int .i64 0, .int .i64 0, .int .i64 0] 23)) (w.heap.size + 1) 23 #[.int .i64 0, .int .i64 0, .int .i64 0, .int .i64 0, .int .i64 0, .int .i64 0, .int .i64 0, .int .i64 0, .int .i64 0, .int .i64 0]) := Lib.hid (by rw [← hs0]; exact Blk.new w0 #[.int .i64 0, .int .i64 0, .int .i64 0, .int .i64 0, .int .i64 0, .int .i64 0, .int .i64 0, .int .i64 0, .int .i64 0, .int .i64 0] 23)
  obtain ⟨hb1, hx1⟩ := laid_row w0 #[.int .i64 0, .int .i64 0, .int .i64 0, .int .i64 0, .int .i64 0, .int .i64 0, .int .i64 0, .int .i64 0, .int .i64 0, .int .i64 0] #[.int .i64 0, .int .i64 0, .int .i64 0, .int .i64 0, .int .i64 0, .int .i64 0, .int .i64 0, .int .i64 0, .int .i64 0, .int .i64 0] 23
  rw [hs0] at hx1 hb1
  have HB1 : Hid (Below w.heap.size w ((w0.alloc (.cells #[.int .i64 0, .int .i64 0, .int .i64 0, .int .i64 0, .int .i64 0, .int .i64 0, .int .i64 0, .int .i64 0, .int .i64 0, .int .i64 0] 23)).setRow (w.heap.size + 1) #[.int .i64 0, .int .i64 0, .int .i64 0, .int .i64 0, .int .i64 0, .int .i64 0, .int .i64 0, .int .i64 0, .int .i64 0, .int .i64 0])) := Lib.hid (hb0.trans (hb1.mono (by omega)))
  have HX1 : Hid (Blk ((w0.alloc (.cells #[.int .i64 0, .int .i64 0, .int .i64 0, .int .i64 0, .int .i64 0, .int .i64 0, .int .i64 0, .int .i64 0, .int .i64 0, .int .i64 0] 23)).setRow (w.heap.size + 1) #[.int .i64 0, .int .i64 0, .int .i64 0, .int .i64 0, .int .i64 0, .int .i64 0, .int .i64 0, .int .i64 0, .int .i64 0, .int .i64 0]) (w.heap.size + 1) 23 #[.int .i64 0, .int .i64 0, .int .i64 0, .int .i64 0, .int .i64 0, .int .i64 0, .int .i64 0, .int .i64 0, .int .i64 0, .int .i64 0]) := Lib.hid hx1
  have HZ1 : Hid (Blk ((w0.alloc (.cells #[.int .i64 0, .int .i64 0, .int .i64 0, .int .i64 0, .int .i64 0, .int .i64 0, .int .i64 0, .int .i64 0, .int .i64 0, .int .i64 0] 23)).setRow (w.heap.size + 1) #[.int .i64 0, .int .i64 0, .int .i64 0, .int .i64 0, .int .i64 0, .int .i64 0, .int .i64 0, .int .i64 0, .int .i64 0, .int .i64 0]) w.heap.size 23 #[.int .i64 0, .int .i64 0, .int .i64 0, .int .i64 0, .int .i64 0, .int .i64 0, .int .i64 0, .int .i64 0, .int .i64 0, .int .i64 0]) := Lib.hid ((hx0.kept ((Below.refl _ _).alloc (Nat.le_refl _) _)).setRow_other (k := w.heap.size + 1) #[.int .i64 0, .int .i64 0, .int .i64 0, .int .i64 0, .int .i64 0, .int .i64 0, .int .i64 0, .int .i64 0, .int .i64 0, .int .i64 0] (by omega))
  clear hb0 hx0 hb1 hx1 hs0
  subst hw0
  go_enter Tryd.func20, Tryd.ntmps20
  go_wp2_with (refine wpList_store_row rfl 23 (.tmp 6) (.tmp 17) rfl (w.heap.size + 1) #[.int .i64 0, .int .i64 0, .int .i64 0, .int .i64 0, .int .i64 0, .int .i64 0, .int .i64 0, .int .i64 0, .int .i64 0, .int .i64 0] rfl rfl _ _ HN.out set_size' rfl (by simp [Value.oneCell']) ?_)
  clear HN
  generalize ((w.alloc (.cells #[.int .i64 0, .int .i64 0, .int .i64 0, .int .i64 0, .int .i64 0, .int .i64 0, .int .i64 0, .int .i64 0, .int .i64 0, .int .i64 0] 23)).alloc (.cells #[.int .i64 0, .int .i64 0, .int .i64 0, .int .i64 0, .int .i64 0, .int .i64 0, .int .i64 0, .int .i64 0, .int .i64 0, .int .i64 0] 23)).setRow (w.heap.size + 1) #[.int .i64 0, .int .i64 0, .int .i64 0, .int .i64 0, .int .i64 0, .int .i64 0, .int .i64 0, .int .i64 0, .int .i64 0, .int .i64 0] = w1 at *
  generalize hn6 : w.heap.size + 1 = n6 at *
  have hn6' : w.heap.size < n6 := by omega
  clear hn6
  go_loopw [7, 8, 9, 10] (fun s7 s8 s9 s10 wr => ∃ (i ln f : Nat) (zs : List Int) (acc : List Ap) (A : Option Addr) (c : Nat), i ≤ t.length ∧ s10 = .int .i64 (i : Int) ∧ s9 = .int .i64 (f : Int) ∧ s8 = .int .i64 (ln : Int) ∧ s7 = .slice A acc.length c ∧ Hid (TInv t i ln f zs acc) ∧ Hid (OR wr w.heap.size 35 13 A c (acc.map Ap.cells)) ∧ Hid (Below w.heap.size w wr) ∧ Hid (Blk wr w.heap.size 23 #[.int .i64 0, .int .i64 0, .int .i64 0, .int .i64 0, .int .i64 0, .int .i64 0, .int .i64 0, .int .i64 0, .int .i64 0, .int .i64 0]) ∧ Hid (Blk wr n6 23 (zs.map (Value.int .i64)).toArray)) (fun _ _ _ s10 _ => t.length + 1 - (intOf s10).toNat)
  case atStart => exact ⟨0, 1, 0, [0, 0, 0, 0, 0, 0, 0, 0, 0, 0], [], none, 0, Nat.zero_le _, rfl, rfl, rfl, rfl, Lib.hid (TInv.start t), Lib.hid (OR.nil _ _ _ _), HB1, HZ1, HX1⟩
  case round =>
    clear HB1 HX1 HZ1
    obtain ⟨i, ln, f, zs, acc, A, c, hi, rfl, rfl, rfl, rfl, HT, HO, HB, HZ, HX⟩ := hrel
    have hfi := HT.out.le
    have hac := HT.out.cnt.1
    have hlf := HT.out.cnt.2.1
    have hl1 := HT.out.cnt.2.2
    have hsb := HB.out.size
    by_cases hlt : i < t.length
    · have hix := at_here t i hlt
      by_cases hc : t[i] = 10
      · have hcx : ((t[i].toNat : Int) != 10) = false := by rw [hc]; rfl
        have hcut := cut_eq t f i
        have hsl : ((t.drop f).take (i - f)).length ≤ 4294967280 := by rw [List.length_take, List.length_drop]; omega
        have CS := Lib.hid (refToSetting ((t.drop f).take (i - f)) hsl)
        have CA := Lib.hid (refToAct ((t.drop f).take (i - f)) hsl)
        have HFN := Lib.hid (fun (h : ln = 1) hr => (h ▸ HT.out : TInv t i 1 f zs acc).firstNo hlt hc hr)
        have HFY := Lib.hid (fun (h : ln = 1) ys hr hy => (h ▸ HT.out : TInv t i 1 f zs acc).first (ys := ys) hlt hc hr hy)
        have HAN := Lib.hid (fun h2 hr => HT.out.actNo h2 hlt hc hr)
        have HAY := Lib.hid (fun h2 a hr => HT.out.act h2 hlt hc (a := a) hr)
        have hzl := HT.out.len
        generalize (t.drop f).take (i - f) = sg at *
        generalize t[i].toNat = ti at *
        clear hc HT hsl
        have HN := Lib.hid (Blk.new wr #[.int .i64 0, .int .i64 0, .int .i64 0, .int .i64 0, .int .u64 0, .int .u64 0, .int .u64 0, .int .u64 0, .int .i64 0, .string ⟨#[]⟩, .int .i64 0, .int .i64 0, .int .u64 0] 35)
        obtain ⟨hb3, hx3⟩ := laid_row wr #[.int .i64 0, .int .i64 0, .int .i64 0, .int .i64 0, .int .u64 0, .int .u64 0, .int .u64 0, .int .u64 0, .int .i64 0, .string ⟨#[]⟩, .int .i64 0, .int .i64 0, .int .u64 0] #[.int .i64 0, .int .i64 0, .int .i64 0, .int .i64 0, .int .u64 0, .int .u64 0, .int .u64 0, .int .u64 0, .int .i64 0, .string ⟨#[]⟩, .int .i64 0, .int .i64 0, .int .u64 0] 35
        have HA3 := Lib.hid hx3
        have HB3 := Lib.hid (HB.out.trans (hb3.mono HB.out.size))
        have HO3 := Lib.hid (HO.out.below hb3)
        have HZ3 := Lib.hid (HZ.out.kept hb3)
        have HX3 := Lib.hid (HX.out.kept hb3)
        have hwr : n6 < wr.heap.size := HX.out.lt
        have HOB : Hid (∀ b, A.map (·.block) = some b → b ≠ wr.heap.size) := Lib.hid (fun b hb => by have := (HO.out.blk_lt b hb).2; omega)
        clear hb3 hx3 HB HO HZ HX
        by_cases h1 : ln = 1
        · have hlb : ((ln : Int) == 1) = true := by rw [beq_iff_eq]; omega
          have hcs := CS.out
          cases hr : readSetting sg with
          | none =>
            have HRES : Hid (readScript t = .bad ln) := Lib.hid (by rw [HRP.out, HFN.out h1 hr, h1])
            have HRA := Lib.hid hr
            clear hr hcs h1
            go_wp2_with (first
              | (refine wpList_store_row rfl 35 (.tmp 12) (.tmp 28) rfl wr.heap.size #[.int .i64 0, .int .i64 0, .int .i64 0, .int .i64 0, .int .u64 0, .int .u64 0, .int .u64 0, .int .u64 0, .int .i64 0, .string ⟨#[]⟩, .int .i64 0, .int .i64 0, .int .u64 0] rfl rfl _ _ HN.out act_size rfl (by simp [Value.oneCell']) ?_
                 clear HN
                 generalize (wr.alloc (.cells #[.int .i64 0, .int .i64 0, .int .i64 0, .int .i64 0, .int .u64 0, .int .u64 0, .int .u64 0, .int .u64 0, .int .i64 0, .string ⟨#[]⟩, .int .i64 0, .int .i64 0, .int .u64 0] 35)).setRow wr.heap.size #[.int .i64 0, .int .i64 0, .int .i64 0, .int .i64 0, .int .u64 0, .int .u64 0, .int .u64 0, .int .u64 0, .int .i64 0, .string ⟨#[]⟩, .int .i64 0, .int .i64 0, .int .u64 0] = w3 at *)
              | (go_at_call 57; refine (CS.out _).mono ?_))
            intro e w4 hpp; unfold RefSetE at hpp; rw [HRA.out] at hpp; obtain ⟨rfl, b4⟩ := hpp
            simp only [Option.isSome_none]
            have HB4 := Lib.hid (HB3.out.trans (b4.mono HB3.out.size))
            have HZ4 := Lib.hid (HZ3.out.kept b4)
            have HX4 := Lib.hid (HX3.out.kept b4)
            obtain ⟨hb5, hx5⟩ := set_in #[.int .i64 0, .int .i64 0, .int .i64 0, .int .i64 0, .int .i64 0, .int .i64 0, .int .i64 0, .int .i64 0, .int .i64 0, .int .i64 0] HB4.out HX4.out (Nat.le_of_lt hn6')
            have HB5 := Lib.hid hb5
            have HZ5 := Lib.hid (HZ4.out.setRow_other (k := n6) #[.int .i64 0, .int .i64 0, .int .i64 0, .int .i64 0, .int .i64 0, .int .i64 0, .int .i64 0, .int .i64 0, .int .i64 0, .int .i64 0] (by omega))
            obtain ⟨hb6, hx6⟩ := set_in #[.int .i64 0, .int .i64 0, .int .i64 0, .int .i64 0, .int .i64 0, .int .i64 0, .int .i64 0, .int .i64 0, .int .i64 0, .int .i64 0] HB5.out HZ5.out (Nat.le_refl _)
            have HB6 := Lib.hid hb6
            have HX6 := Lib.hid hx6
            clear b4 hb5 hx5 hb6 hx6 HB3 HZ3 HX3 HO3 HA3
            go_wp2_with (first
              | (refine wpList_store_row rfl 23 (.tmp 6) (.tmp 37) rfl n6 #[.int .i64 0, .int .i64 0, .int .i64 0, .int .i64 0, .int .i64 0, .int .i64 0, .int .i64 0, .int .i64 0, .int .i64 0, .int .i64 0] rfl rfl _ _ HX4.out set_size' (by simp [hzl]) (by simp [Value.oneCell']) ?_)
              | (refine wpList_store_row rfl 23 (.tmp 2) (.tmp 53) rfl w.heap.size #[.int .i64 0, .int .i64 0, .int .i64 0, .int .i64 0, .int .i64 0, .int .i64 0, .int .i64 0, .int .i64 0, .int .i64 0, .int .i64 0] rfl rfl _ _ HZ5.out set_size' rfl (by simp [Value.oneCell']) ?_))
            have y0 := HX6.out.cell 0 rfl; have y1 := HX6.out.cell 1 rfl; have y2 := HX6.out.cell 2 rfl; have y3 := HX6.out.cell 3 rfl; have y4 := HX6.out.cell 4 rfl; have y5 := HX6.out.cell 5 rfl; have y6 := HX6.out.cell 6 rfl; have y7 := HX6.out.cell 7 rfl; have y8 := HX6.out.cell 8 rfl; have y9 := HX6.out.cell 9 rfl
            refine bodyPost_ret (v := .tuple #[.agg #[.int .i64 0, .int .i64 0, .int .i64 0, .int .i64 0, .int .i64 0, .int .i64 0, .int .i64 0, .int .i64 0, .int .i64 0, .int .i64 0], .slice none 0 0, .int .i64 (ln : Int), .int .i64 4]) (by simp [results, Tryd.results20, go_sem, y0, y1, y2, y3, y4, y5, y6, y7, y8, y9]) rfl ?_
            exact toScrE_no HRES.out rfl HB6.out
          | some ys =>
            obtain ⟨_, hy10, _⟩ := readSetting_some hr
            have HTN := Lib.hid (HFY.out h1 ys hr hy10)
            have HRA := Lib.hid hr
            obtain ⟨g1, g2, g3, g4, g5, g6, g7, g8, g9, g10, rfl⟩ := ten hy10
            obtain rfl := h1
            clear hr hcs hy10
            go_wp2_with (first
              | (refine wpList_store_row rfl 35 (.tmp 12) (.tmp 28) rfl wr.heap.size #[.int .i64 0, .int .i64 0, .int .i64 0, .int .i64 0, .int .u64 0, .int .u64 0, .int .u64 0, .int .u64 0, .int .i64 0, .string ⟨#[]⟩, .int .i64 0, .int .i64 0, .int .u64 0] rfl rfl _ _ HN.out act_size rfl (by simp [Value.oneCell']) ?_
                 clear HN
                 generalize (wr.alloc (.cells #[.int .i64 0, .int .i64 0, .int .i64 0, .int .i64 0, .int .u64 0, .int .u64 0, .int .u64 0, .int .u64 0, .int .i64 0, .string ⟨#[]⟩, .int .i64 0, .int .i64 0, .int .u64 0] 35)).setRow wr.heap.size #[.int .i64 0, .int .i64 0, .int .i64 0, .int .i64 0, .int .u64 0, .int .u64 0, .int .u64 0, .int .u64 0, .int .i64 0, .string ⟨#[]⟩, .int .i64 0, .int .i64 0, .int .u64 0] = w3 at *)
              | (go_at_call 57; refine (CS.out _).mono ?_))
            intro e w4 hpp; unfold RefSetE at hpp; rw [HRA.out] at hpp; obtain ⟨rfl, b4⟩ := hpp
            simp only [Option.isSome_some, List.map_cons, List.map_nil]
            have HB4 := Lib.hid (HB3.out.trans (b4.mono HB3.out.size))
            have HZ4 := Lib.hid (HZ3.out.kept b4)
            have HX4 := Lib.hid (HX3.out.kept b4)
            have HO4 := Lib.hid (HO3.out.below b4)
            obtain ⟨hb5, hx5⟩ := set_in #[.int .i64 g1, .int .i64 g2, .int .i64 g3, .int .i64 g4, .int .i64 g5, .int .i64 g6, .int .i64 g7, .int .i64 g8, .int .i64 g9, .int .i64 g10] HB4.out HX4.out (Nat.le_of_lt hn6')
            have HB5 := Lib.hid hb5
            have HX5 : Hid (Blk (w4.setRow n6 #[.int .i64 g1, .int .i64 g2, .int .i64 g3, .int .i64 g4, .int .i64 g5, .int .i64 g6, .int .i64 g7, .int .i64 g8, .int .i64 g9, .int .i64 g10]) n6 23 (([g1, g2, g3, g4, g5, g6, g7, g8, g9, g10] : List Int).map (Value.int .i64)).toArray) := Lib.hid hx5
            have HZ5 := Lib.hid (HZ4.out.setRow_other (k := n6) #[.int .i64 g1, .int .i64 g2, .int .i64 g3, .int .i64 g4, .int .i64 g5, .int .i64 g6, .int .i64 g7, .int .i64 g8, .int .i64 g9, .int .i64 g10] (by omega))
            have HO5 : Hid (OR (w4.setRow n6 #[.int .i64 g1, .int .i64 g2, .int .i64 g3, .int .i64 g4, .int .i64 g5, .int .i64 g6, .int .i64 g7, .int .i64 g8, .int .i64 g9, .int .i64 g10]) w.heap.size 35 13 A c (acc.map Ap.cells)) := Lib.hid (HO4.out.of_block fun b hb => setRow_other _ _ _ _ (by rintro rfl; exact HO4.out.ne_var HX4.out (by decide) hb))
            clear b4 hb5 hx5 HB3 HZ3 HX3 HO3 HA3 HO4
            go_wp2_with (refine wpList_store_row rfl 23 (.tmp 6) (.tmp 37) rfl n6 #[.int .i64 g1, .int .i64 g2, .int .i64 g3, .int .i64 g4, .int .i64 g5, .int .i64 g6, .int .i64 g7, .int .i64 g8, .int .i64 g9, .int .i64 g10] rfl rfl _ _ HX4.out set_size' (by simp [hzl]) (by simp [Value.oneCell']) ?_)
            go_roundw
            case rel => exact ⟨i + 1, 2, i + 1, [g1, g2, g3, g4, g5, g6, g7, g8, g9, g10], acc, A, c, by omega, by go_num, by go_num, by go_num, rfl, HTN, HO5, HB5, HZ5, HX5⟩
            case measure => simp [intOf]; omega
        · have hlb : ((ln : Int) == 1) = false := by rw [beq_eq_false_iff_ne]; omega
          have h2 : 2 ≤ ln := by omega
          cases hr : readAct sg with
          | none =>
            have HRES : Hid (readScript t = .bad ln) := Lib.hid (by rw [HRP.out, HAN.out h2 hr])
            have HRA := Lib.hid hr
            clear hr h1
            have hwr2 : w.heap.size ≤ wr.heap.size := by omega
            go_wp2_with (first
              | (refine wpList_store_row rfl 35 (.tmp 12) (.tmp 28) rfl wr.heap.size #[.int .i64 0, .int .i64 0, .int .i64 0, .int .i64 0, .int .u64 0, .int .u64 0, .int .u64 0, .int .u64 0, .int .i64 0, .string ⟨#[]⟩, .int .i64 0, .int .i64 0, .int .u64 0] rfl rfl _ _ HN.out act_size rfl (by simp [Value.oneCell']) ?_
                 clear HN
                 generalize (wr.alloc (.cells #[.int .i64 0, .int .i64 0, .int .i64 0, .int .i64 0, .int .u64 0, .int .u64 0, .int .u64 0, .int .u64 0, .int .i64 0, .string ⟨#[]⟩, .int .i64 0, .int .i64 0, .int .u64 0] 35)).setRow wr.heap.size #[.int .i64 0, .int .i64 0, .int .i64 0, .int .i64 0, .int .u64 0, .int .u64 0, .int .u64 0, .int .u64 0, .int .i64 0, .string ⟨#[]⟩, .int .i64 0, .int .i64 0, .int .u64 0] = w3 at *)
              | (go_at_call 15; refine (CA.out _).mono ?_))
            intro e w4 hpp; unfold RefToActE at hpp; rw [HRA.out] at hpp; obtain ⟨rfl, b4⟩ := hpp
            simp only [Option.isSome_none]
            try (unfold Ap.cells Cm.cells; simp only [List.cons_append, List.nil_append])
            have HB4 := Lib.hid (HB3.out.trans (b4.mono HB3.out.size))
            have HZ4 := Lib.hid (HZ3.out.kept b4)
            have HX4 := Lib.hid (HX3.out.kept b4)
            have HO4 := Lib.hid (HO3.out.below b4)
            have HA4 := Lib.hid (HA3.out.kept b4)
            have HAB : Hid (∀ b, A.map (·.block) = some b → b ≠ wr.heap.size) := HOB
            obtain ⟨hb5, hx5⟩ := set_in #[.int .i64 0, .int .i64 0, .int .i64 0, .int .i64 0, .int .u64 0, .int .u64 0, .int .u64 0, .int .u64 0, .int .i64 0, .string ⟨#[]⟩, .int .i64 0, .int .i64 0, .int .u64 0] HB4.out HA4.out hwr2
            have HB5 := Lib.hid hb5
            have HA5 := Lib.hid hx5
            have HZ5 := Lib.hid (HZ4.out.setRow_other (k := wr.heap.size) #[.int .i64 0, .int .i64 0, .int .i64 0, .int .i64 0, .int .u64 0, .int .u64 0, .int .u64 0, .int .u64 0, .int .i64 0, .string ⟨#[]⟩, .int .i64 0, .int .i64 0, .int .u64 0] (by omega))
            have HX5 := Lib.hid (HX4.out.setRow_other (k := wr.heap.size) #[.int .i64 0, .int .i64 0, .int .i64 0, .int .i64 0, .int .u64 0, .int .u64 0, .int .u64 0, .int .u64 0, .int .i64 0, .string ⟨#[]⟩, .int .i64 0, .int .i64 0, .int .u64 0] (by omega))
            have HO5 : Hid (OR (w4.setRow wr.heap.size #[.int .i64 0, .int .i64 0, .int .i64 0, .int .i64 0, .int .u64 0, .int .u64 0, .int .u64 0, .int .u64 0, .int .i64 0, .string ⟨#[]⟩, .int .i64 0, .int .i64 0, .int .u64 0]) w.heap.size 35 13 A c (acc.map Ap.cells)) := Lib.hid (HO4.out.of_block fun b hb => setRow_other _ _ _ _ (HAB.out b hb))
            clear b4 hb5 hx5 HB3 HZ3 HX3 HO3 HA3 HB4 HZ4 HX4 HO4
            go_wp2_with (first
              | (refine wpList_store_row rfl 35 (.tmp 12) (.tmp 45) rfl wr.heap.size #[.int .i64 0, .int .i64 0, .int .i64 0, .int .i64 0, .int .u64 0, .int .u64 0, .int .u64 0, .int .u64 0, .int .i64 0, .string ⟨#[]⟩, .int .i64 0, .int .i64 0, .int .u64 0] rfl rfl _ _ HA4.out act_size rfl (by simp [Value.oneCell']) ?_
                 generalize w4.setRow wr.heap.size #[.int .i64 0, .int .i64 0, .int .i64 0, .int .i64 0, .int .u64 0, .int .u64 0, .int .u64 0, .int .u64 0, .int .i64 0, .string ⟨#[]⟩, .int .i64 0, .int .i64 0, .int .u64 0] = x3 at *
                 have hba5 : Below x3.heap.size x3 (x3.alloc (.cells #[.int .i64 0, .int .i64 0, .int .i64 0, .int .i64 0, .int .u64 0, .int .u64 0, .int .u64 0, .int .u64 0, .int .i64 0, .string ⟨#[]⟩, .int .i64 0, .int .i64 0, .int .u64 0] 35)) := (Below.refl _ _).alloc (Nat.le_refl _) _
                 have HB7 := Lib.hid (HB5.out.trans (hba5.mono HB5.out.size))
                 have HO7 := Lib.hid (HO5.out.below hba5)
                 have HZ7 := Lib.hid (HZ5.out.kept hba5)
                 have HX7 := Lib.hid (HX5.out.kept hba5)
                 have HL7 := Lib.hid (Blk.new x3 #[.int .i64 0, .int .i64 0, .int .i64 0, .int .i64 0, .int .u64 0, .int .u64 0, .int .u64 0, .int .u64 0, .int .i64 0, .string ⟨#[]⟩, .int .i64 0, .int .i64 0, .int .u64 0] 35)
                 have d0 := HA5.out.cell 0 rfl; have d1 := HA5.out.cell 1 rfl; have d2 := HA5.out.cell 2 rfl; have d3 := HA5.out.cell 3 rfl; have d4 := HA5.out.cell 4 rfl; have d5 := HA5.out.cell 5 rfl; have d6 := HA5.out.cell 6 rfl; have d7 := HA5.out.cell 7 rfl; have d8 := HA5.out.cell 8 rfl; have d9 := HA5.out.cell 9 rfl; have d10 := HA5.out.cell 10 rfl; have d11 := HA5.out.cell 11 rfl; have d12 := HA5.out.cell 12 rfl
                 clear hba5 HB5 HO5 HZ5 HX5)
              | (at_builtin; refine wp_appendS _ rfl (.tmp 47) (.tmp 49) 24 35 rfl Tryd.underlying24 hi0 hz0 hz1 hz2 rfl (by decide) w.heap.size A (some ⟨x3.heap.size, 0, none⟩) c 1 (acc.map Ap.cells) [[.int .i64 0, .int .i64 0, .int .i64 0, .int .i64 0, .int .u64 0, .int .u64 0, .int .u64 0, .int .u64 0, .int .i64 0, .string ⟨#[]⟩, .int .i64 0, .int .i64 0, .int .u64 0]] (by simp; rfl) (by simp; rfl) HO7.out (RS.lit HL7.out) (by simp) (by simp [Value.oneCell']) (by simp; omega) (by simp; omega) HB7.out.size ?_
                 intro zs9 A9 c9 w9 hys hy1 hy2 hrow hg9 hA9
                 have HYK := Lib.hid hys.out
                 have HO9 := Lib.hid hrow
                 have HB9 := Lib.hid (HB7.out.grown hg9 HB7.out.size (fun b hb => (HO7.out.blk_lt b hb).1))
                 have HZ9 := Lib.hid (HZ7.out.grown hg9 (fun e => HO7.out.ne_var HZ7.out (by decide) e))
                 have HX9 := Lib.hid (HX7.out.grown hg9 (fun e => HO7.out.ne_var HX7.out (by decide) e))
                 have HYL : Hid (zs9.length = acc.length + 1) := Lib.hid (by rw [hys.out]; simp)
                 clear hys hy1 hy2 hrow hg9 hA9 HO7 HB7 HL7 HZ7 HX7 HA5)
              | (refine wpList_store_row rfl 23 (.tmp 2) (.tmp 53) rfl w.heap.size #[.int .i64 0, .int .i64 0, .int .i64 0, .int .i64 0, .int .i64 0, .int .i64 0, .int .i64 0, .int .i64 0, .int .i64 0, .int .i64 0] rfl rfl _ _ HZ9.out set_size' rfl (by simp [Value.oneCell']) ?_))
            obtain ⟨hb10, hx10⟩ := set_in #[.int .i64 0, .int .i64 0, .int .i64 0, .int .i64 0, .int .i64 0, .int .i64 0, .int .i64 0, .int .i64 0, .int .i64 0, .int .i64 0] HB9.out HZ9.out (Nat.le_refl _)
            have HB6 := Lib.hid hb10
            have HX6 := Lib.hid hx10
            clear hb10 hx10 HYL
            have y0 := HX6.out.cell 0 rfl; have y1 := HX6.out.cell 1 rfl; have y2 := HX6.out.cell 2 rfl; have y3 := HX6.out.cell 3 rfl; have y4 := HX6.out.cell 4 rfl; have y5 := HX6.out.cell 5 rfl; have y6 := HX6.out.cell 6 rfl; have y7 := HX6.out.cell 7 rfl; have y8 := HX6.out.cell 8 rfl; have y9 := HX6.out.cell 9 rfl
            refine bodyPost_ret (v := .tuple #[.agg #[.int .i64 0, .int .i64 0, .int .i64 0, .int .i64 0, .int .i64 0, .int .i64 0, .int .i64 0, .int .i64 0, .int .i64 0, .int .i64 0], .slice none 0 0, .int .i64 (ln : Int), .int .i64 4]) (by simp [results, Tryd.results20, go_sem, y0, y1, y2, y3, y4, y5, y6, y7, y8, y9]) rfl ?_
            exact toScrE_no HRES.out rfl HB6.out
          | some a =>
            have HTN := Lib.hid (HAY.out h2 a hr)
            have HRA := Lib.hid hr
            obtain ⟨kind, ka, kb, kn, kdraw, kmask, ⟨ses, seq, op, key, amount, span, lease⟩⟩ := a
            clear hr h1
            have hwr2 : w.heap.size ≤ wr.heap.size := by omega
            go_wp2_with (first
              | (refine wpList_store_row rfl 35 (.tmp 12) (.tmp 28) rfl wr.heap.size #[.int .i64 0, .int .i64 0, .int .i64 0, .int .i64 0, .int .u64 0, .int .u64 0, .int .u64 0, .int .u64 0, .int .i64 0, .string ⟨#[]⟩, .int .i64 0, .int .i64 0, .int .u64 0] rfl rfl _ _ HN.out act_size rfl (by simp [Value.oneCell']) ?_
                 clear HN
                 generalize (wr.alloc (.cells #[.int .i64 0, .int .i64 0, .int .i64 0, .int .i64 0, .int .u64 0, .int .u64 0, .int .u64 0, .int .u64 0, .int .i64 0, .string ⟨#[]⟩, .int .i64 0, .int .i64 0, .int .u64 0] 35)).setRow wr.heap.size #[.int .i64 0, .int .i64 0, .int .i64 0, .int .i64 0, .int .u64 0, .int .u64 0, .int .u64 0, .int .u64 0, .int .i64 0, .string ⟨#[]⟩, .int .i64 0, .int .i64 0, .int .u64 0] = w3 at *)
              | (go_at_call 15; refine (CA.out _).mono ?_))
            intro e w4 hpp; unfold RefToActE at hpp; rw [HRA.out] at hpp; obtain ⟨rfl, b4⟩ := hpp
            simp only [Option.isSome_some]
            try (unfold Ap.cells Cm.cells; simp only [List.cons_append, List.nil_append])
            have HB4 := Lib.hid (HB3.out.trans (b4.mono HB3.out.size))
            have HZ4 := Lib.hid (HZ3.out.kept b4)
            have HX4 := Lib.hid (HX3.out.kept b4)
            have HO4 := Lib.hid (HO3.out.below b4)
            have HA4 := Lib.hid (HA3.out.kept b4)
            have HAB : Hid (∀ b, A.map (·.block) = some b → b ≠ wr.heap.size) := HOB
            obtain ⟨hb5, hx5⟩ := set_in #[.int .i64 kind, .int .i64 ka, .int .i64 kb, .int .i64 kn, .int .u64 kdraw, .int .u64 kmask, .int .u64 ses, .int .u64 seq, .int .i64 op, .string ⟨key.toArray⟩, .int .i64 amount, .int .i64 span, .int .u64 lease] HB4.out HA4.out hwr2
            have HB5 := Lib.hid hb5
            have HA5 := Lib.hid hx5
            have HZ5 := Lib.hid (HZ4.out.setRow_other (k := wr.heap.size) #[.int .i64 kind, .int .i64 ka, .int .i64 kb, .int .i64 kn, .int .u64 kdraw, .int .u64 kmask, .int .u64 ses, .int .u64 seq, .int .i64 op, .string ⟨key.toArray⟩, .int .i64 amount, .int .i64 span, .int .u64 lease] (by omega))
            have HX5 := Lib.hid (HX4.out.setRow_other (k := wr.heap.size) #[.int .i64 kind, .int .i64 ka, .int .i64 kb, .int .i64 kn, .int .u64 kdraw, .int .u64 kmask, .int .u64 ses, .int .u64 seq, .int .i64 op, .string ⟨key.toArray⟩, .int .i64 amount, .int .i64 span, .int .u64 lease] (by omega))
            have HO5 : Hid (OR (w4.setRow wr.heap.size #[.int .i64 kind, .int .i64 ka, .int .i64 kb, .int .i64 kn, .int .u64 kdraw, .int .u64 kmask, .int .u64 ses, .int .u64 seq, .int .i64 op, .string ⟨key.toArray⟩, .int .i64 amount, .int .i64 span, .int .u64 lease]) w.heap.size 35 13 A c (acc.map Ap.cells)) := Lib.hid (HO4.out.of_block fun b hb => setRow_other _ _ _ _ (HAB.out b hb))
            clear b4 hb5 hx5 HB3 HZ3 HX3 HO3 HA3 HB4 HZ4 HX4 HO4
            go_wp2_with (first
              | (refine wpList_store_row rfl 35 (.tmp 12) (.tmp 45) rfl wr.heap.size #[.int .i64 kind, .int .i64 ka, .int .i64 kb, .int .i64 kn, .int .u64 kdraw, .int .u64 kmask, .int .u64 ses, .int .u64 seq, .int .i64 op, .string ⟨key.toArray⟩, .int .i64 amount, .int .i64 span, .int .u64 lease] rfl rfl _ _ HA4.out act_size rfl (by simp [Value.oneCell']) ?_
                 generalize w4.setRow wr.heap.size #[.int .i64 kind, .int .i64 ka, .int .i64 kb, .int .i64 kn, .int .u64 kdraw, .int .u64 kmask, .int .u64 ses, .int .u64 seq, .int .i64 op, .string ⟨key.toArray⟩, .int .i64 amount, .int .i64 span, .int .u64 lease] = x3 at *
                 have hba5 : Below x3.heap.size x3 (x3.alloc (.cells #[.int .i64 kind, .int .i64 ka, .int .i64 kb, .int .i64 kn, .int .u64 kdraw, .int .u64 kmask, .int .u64 ses, .int .u64 seq, .int .i64 op, .string ⟨key.toArray⟩, .int .i64 amount, .int .i64 span, .int .u64 lease] 35)) := (Below.refl _ _).alloc (Nat.le_refl _) _
                 have HB7 := Lib.hid (HB5.out.trans (hba5.mono HB5.out.size))
                 have HO7 := Lib.hid (HO5.out.below hba5)
                 have HZ7 := Lib.hid (HZ5.out.kept hba5)
                 have HX7 := Lib.hid (HX5.out.kept hba5)
                 have HL7 := Lib.hid (Blk.new x3 #[.int .i64 kind, .int .i64 ka, .int .i64 kb, .int .i64 kn, .int .u64 kdraw, .int .u64 kmask, .int .u64 ses, .int .u64 seq, .int .i64 op, .string ⟨key.toArray⟩, .int .i64 amount, .int .i64 span, .int .u64 lease] 35)
                 have d0 := HA5.out.cell 0 rfl; have d1 := HA5.out.cell 1 rfl; have d2 := HA5.out.cell 2 rfl; have d3 := HA5.out.cell 3 rfl; have d4 := HA5.out.cell 4 rfl; have d5 := HA5.out.cell 5 rfl; have d6 := HA5.out.cell 6 rfl; have d7 := HA5.out.cell 7 rfl; have d8 := HA5.out.cell 8 rfl; have d9 := HA5.out.cell 9 rfl; have d10 := HA5.out.cell 10 rfl; have d11 := HA5.out.cell 11 rfl; have d12 := HA5.out.cell 12 rfl
                 clear hba5 HB5 HO5 HZ5 HX5)
              | (at_builtin; refine wp_appendS _ rfl (.tmp 47) (.tmp 49) 24 35 rfl Tryd.underlying24 hi0 hz0 hz1 hz2 rfl (by decide) w.heap.size A (some ⟨x3.heap.size, 0, none⟩) c 1 (acc.map Ap.cells) [[.int .i64 kind, .int .i64 ka, .int .i64 kb, .int .i64 kn, .int .u64 kdraw, .int .u64 kmask, .int .u64 ses, .int .u64 seq, .int .i64 op, .string ⟨key.toArray⟩, .int .i64 amount, .int .i64 span, .int .u64 lease]] (by simp; rfl) (by simp; rfl) HO7.out (RS.lit HL7.out) (by simp) (by simp [Value.oneCell']) (by simp; omega) (by simp; omega) HB7.out.size ?_
                 intro zs9 A9 c9 w9 hys hy1 hy2 hrow hg9 hA9
                 have HYK := Lib.hid hys.out
                 have HO9 := Lib.hid hrow
                 have HB9 := Lib.hid (HB7.out.grown hg9 HB7.out.size (fun b hb => (HO7.out.blk_lt b hb).1))
                 have HZ9 := Lib.hid (HZ7.out.grown hg9 (fun e => HO7.out.ne_var HZ7.out (by decide) e))
                 have HX9 := Lib.hid (HX7.out.grown hg9 (fun e => HO7.out.ne_var HX7.out (by decide) e))
                 have HYL : Hid (zs9.length = acc.length + 1) := Lib.hid (by rw [hys.out]; simp)
                 clear hys hy1 hy2 hrow hg9 hA9 HO7 HB7 HL7 HZ7 HX7 HA5))
            have HYS : Hid (zs9 = (acc ++ [(⟨kind, ka, kb, kn, kdraw, kmask, ⟨ses, seq, op, key, amount, span, lease⟩⟩ : Ap)]).map Ap.cells) := Lib.hid (by rw [HYK.out, List.map_append]; rfl)
            have HYL2 : Hid (zs9.length = (acc ++ [(⟨kind, ka, kb, kn, kdraw, kmask, ⟨ses, seq, op, key, amount, span, lease⟩⟩ : Ap)]).length) := Lib.hid (by rw [HYS.out, List.length_map])
            have HO10 : Hid (OR w9 w.heap.size 35 13 A9 c9 ((acc ++ [(⟨kind, ka, kb, kn, kdraw, kmask, ⟨ses, seq, op, key, amount, span, lease⟩⟩ : Ap)]).map Ap.cells)) := Lib.hid (by rw [← HYS.out]; exact HO9.out)
            clear HYK HYS HO9 HYL
            rw [HYL2.out]
            clear HYL2
            generalize (acc ++ [(⟨kind, ka, kb, kn, kdraw, kmask, ⟨ses, seq, op, key, amount, span, lease⟩⟩ : Ap)]) = acc9 at *
            go_wp2_with fail
            go_roundw
            case rel => exact ⟨i + 1, ln + 1, i + 1, zs, acc9, A9, c9, by omega, by go_num, by go_num, by go_num, rfl, HTN, HO10, HB9, HZ9, HX9⟩
            case measure => simp [intOf]; omega
      · have HTN := Lib.hid (HT.out.skip hlt hc)
        have hcx : ((t[i].toNat : Int) != 10) = true := by
          rw [bne_iff_ne]
          intro e
          have e' : (t[i].toNat : Int) = 10 := e
          exact hc (show t[i] = UInt8.ofNat 10 from u8_eq (n := 10) (by decide) (by omega))
        generalize t[i].toNat = ti at *
        clear hc HT
        go_wp2_with fail
        go_roundw
        case rel => exact ⟨i + 1, ln, f, zs, acc, A, c, by omega, by go_num, rfl, rfl, rfl, HTN, HO, HB, HZ, HX⟩
        case measure => simp [intOf]; omega
    · obtain rfl : i = t.length := by omega
      by_cases hf : f < t.length
      · have HRES : Hid (readScript t = .bad ln) := Lib.hid (by rw [HRP.out, HT.out.torn hf])
        have hfb : decide ((f : Int) < (t.length : Int)) = true := decide_eq_true (by omega)
        have hfi2 : (f : Int) < (t.length : Int) := by omega
        obtain ⟨hb5, hx5⟩ := set_in #[.int .i64 0, .int .i64 0, .int .i64 0, .int .i64 0, .int .i64 0, .int .i64 0, .int .i64 0, .int .i64 0, .int .i64 0, .int .i64 0] HB.out HZ.out (Nat.le_refl _)
        have HB6 := Lib.hid hb5
        have HX6 := Lib.hid hx5
        clear hb5 hx5 HT HB HO HX
        go_wp2_with (refine wpList_store_row rfl 23 (.tmp 2) (.tmp 67) rfl w.heap.size #[.int .i64 0, .int .i64 0, .int .i64 0, .int .i64 0, .int .i64 0, .int .i64 0, .int .i64 0, .int .i64 0, .int .i64 0, .int .i64 0] rfl rfl _ _ HZ.out set_size' rfl (by simp [Value.oneCell']) ?_)
        have y0 := HX6.out.cell 0 rfl; have y1 := HX6.out.cell 1 rfl; have y2 := HX6.out.cell 2 rfl; have y3 := HX6.out.cell 3 rfl; have y4 := HX6.out.cell 4 rfl; have y5 := HX6.out.cell 5 rfl; have y6 := HX6.out.cell 6 rfl; have y7 := HX6.out.cell 7 rfl; have y8 := HX6.out.cell 8 rfl; have y9 := HX6.out.cell 9 rfl
        refine bodyPost_ret (v := .tuple #[.agg #[.int .i64 0, .int .i64 0, .int .i64 0, .int .i64 0, .int .i64 0, .int .i64 0, .int .i64 0, .int .i64 0, .int .i64 0, .int .i64 0], .slice none 0 0, .int .i64 (ln : Int), .int .i64 4]) (by simp [results, Tryd.results20, go_sem, y0, y1, y2, y3, y4, y5, y6, y7, y8, y9]) rfl ?_
        exact toScrE_no HRES.out rfl HB6.out
      · have hfb : decide ((f : Int) < (t.length : Int)) = false := decide_eq_false (by omega)
        have hfi2 : ¬ (f : Int) < (t.length : Int) := by omega
        by_cases h1 : ln = 1
        · obtain rfl := h1
          have HRES : Hid (readScript t = .bad 1) := Lib.hid (by rw [HRP.out, HT.out.none hf])
          obtain ⟨hb5, hx5⟩ := set_in #[.int .i64 0, .int .i64 0, .int .i64 0, .int .i64 0, .int .i64 0, .int .i64 0, .int .i64 0, .int .i64 0, .int .i64 0, .int .i64 0] HB.out HZ.out (Nat.le_refl _)
          have HB6 := Lib.hid hb5
          have HX6 := Lib.hid hx5
          clear hb5 hx5 HT HB HO HX
          go_wp2_with (refine wpList_store_row rfl 23 (.tmp 2) (.tmp 67) rfl w.heap.size #[.int .i64 0, .int .i64 0, .int .i64 0, .int .i64 0, .int .i64 0, .int .i64 0, .int .i64 0, .int .i64 0, .int .i64 0, .int .i64 0] rfl rfl _ _ HZ.out set_size' rfl (by simp [Value.oneCell']) ?_)
          have y0 := HX6.out.cell 0 rfl; have y1 := HX6.out.cell 1 rfl; have y2 := HX6.out.cell 2 rfl; have y3 := HX6.out.cell 3 rfl; have y4 := HX6.out.cell 4 rfl; have y5 := HX6.out.cell 5 rfl; have y6 := HX6.out.cell 6 rfl; have y7 := HX6.out.cell 7 rfl; have y8 := HX6.out.cell 8 rfl; have y9 := HX6.out.cell 9 rfl
          refine bodyPost_ret (v := .tuple #[.agg #[.int .i64 0, .int .i64 0, .int .i64 0, .int .i64 0, .int .i64 0, .int .i64 0, .int .i64 0, .int .i64 0, .int .i64 0, .int .i64 0], .slice none 0 0, .int .i64 1, .int .i64 4]) (by simp [results, Tryd.results20, go_sem, y0, y1, y2, y3, y4, y5, y6, y7, y8, y9]) rfl ?_
          exact toScrE_no HRES.out rfl HB6.out
        · have hlb : ((ln : Int) == 1) = false := by rw [beq_eq_false_iff_ne]; omega
          have HRES : Hid (readScript t = .ok zs acc) := Lib.hid (by rw [HRP.out, HT.out.fin (by omega) hf])
          obtain ⟨g1, g2, g3, g4, g5, g6, g7, g8, g9, g10, rfl⟩ := ten HT.out.len
          simp only [List.map_cons, List.map_nil] at HX
          have d0 := HX.out.cell 0 rfl; have d1 := HX.out.cell 1 rfl; have d2 := HX.out.cell 2 rfl; have d3 := HX.out.cell 3 rfl; have d4 := HX.out.cell 4 rfl; have d5 := HX.out.cell 5 rfl; have d6 := HX.out.cell 6 rfl; have d7 := HX.out.cell 7 rfl; have d8 := HX.out.cell 8 rfl; have d9 := HX.out.cell 9 rfl
          obtain ⟨hb5, hx5⟩ := set_in #[.int .i64 g1, .int .i64 g2, .int .i64 g3, .int .i64 g4, .int .i64 g5, .int .i64 g6, .int .i64 g7, .int .i64 g8, .int .i64 g9, .int .i64 g10] HB.out HZ.out (Nat.le_refl _)
          have HB6 := Lib.hid hb5
          have HX6 := Lib.hid hx5
          have HO6 : Hid (OR (wr.setRow w.heap.size #[.int .i64 g1, .int .i64 g2, .int .i64 g3, .int .i64 g4, .int .i64 g5, .int .i64 g6, .int .i64 g7, .int .i64 g8, .int .i64 g9, .int .i64 g10]) w.heap.size 35 13 A c (acc.map Ap.cells)) := Lib.hid (HO.out.of_block fun b hb => setRow_other _ _ _ _ (by rintro rfl; exact HO.out.ne_var HZ.out (by decide) hb))
          clear hb5 hx5 HT HB HO
          go_wp2_with (refine wpList_store_row rfl 23 (.tmp 2) (.tmp 69) rfl w.heap.size #[.int .i64 g1, .int .i64 g2, .int .i64 g3, .int .i64 g4, .int .i64 g5, .int .i64 g6, .int .i64 g7, .int .i64 g8, .int .i64 g9, .int .i64 g10] rfl rfl _ _ HZ.out set_size' rfl (by simp [Value.oneCell']) ?_)
          have y0 := HX6.out.cell 0 rfl; have y1 := HX6.out.cell 1 rfl; have y2 := HX6.out.cell 2 rfl; have y3 := HX6.out.cell 3 rfl; have y4 := HX6.out.cell 4 rfl; have y5 := HX6.out.cell 5 rfl; have y6 := HX6.out.cell 6 rfl; have y7 := HX6.out.cell 7 rfl; have y8 := HX6.out.cell 8 rfl; have y9 := HX6.out.cell 9 rfl
          refine bodyPost_ret (v := .tuple #[.agg #[.int .i64 g1, .int .i64 g2, .int .i64 g3, .int .i64 g4, .int .i64 g5, .int .i64 g6, .int .i64 g7, .int .i64 g8, .int .i64 g9, .int .i64 g10], .slice A acc.length c, .int .i64 0, .int .i64 0]) (by simp [results, Tryd.results20, go_sem, y0, y1, y2, y3, y4, y5, y6, y7, y8, y9]) rfl ?_
          exact toScrE_yes HRES.out rfl HO6.out HB6.out

theorem refToScript (t : List UInt8) (w : World) : Calls Tryd.prog 20 #[.string ⟨t.toArray⟩] w (ToScrE t w) := by
  by_cases hl : t.length ≤ 65536
  · exact refToScriptS t w hl
  · exact refToScriptL t w (by omega)
end Go.Proofs.YtcinohmhhglpjaaDoor
