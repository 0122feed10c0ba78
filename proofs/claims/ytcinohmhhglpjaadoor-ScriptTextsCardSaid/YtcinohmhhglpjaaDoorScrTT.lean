/- ScrTT: put together by merge.py of: ScrTS, ScrTT. -/
import Derived.Test.YtcinohmhhglpjaaDoorScrRS
import Derived.Test.YtcinohmhhglpjaaDoorScrTA
import Derived.Test.YtcinohmhhglpjaaDoorScrTP
import Derived.Test.YtcinohmhhglpjaaDoorRowS
/- Contracts of package script: toSetting, ToScript's closure. -/
namespace Go.Proofs.YtcinohmhhglpjaaDoor
open Go.RowKit

theorem sg_in (w0 w : World) (cs ds : Array Value) (Ty : TypeId) (h : Below w0.heap.size w0 w) : Below w0.heap.size w0 ((w.alloc (.cells cs Ty)).setRow w.heap.size ds) ∧ Blk ((w.alloc (.cells cs Ty)).setRow w.heap.size ds) w.heap.size Ty ds := row_in w0 w cs ds Ty h

set_option maxRecDepth 20000 in
set_option maxHeartbeats 4000000 in
theorem scrBad (k : Int) (w : World) : Calls Tryd.prog 54 #[.int .i64 k] w fun e w' => e = .returned (.tuple #[.agg #[.int .i64 0, .int .i64 0, .int .i64 0, .int .i64 0, .int .i64 0, .int .i64 0, .int .i64 0, .int .i64 0, .int .i64 0, .int .i64 0], .slice none 0 0, .int .i64 k, .int .i64 4]) ∧ Below w.heap.size w w' := by
  have HN := Lib.hid (Blk.new w #[.int .i64 0, .int .i64 0, .int .i64 0, .int .i64 0, .int .i64 0, .int .i64 0, .int .i64 0, .int .i64 0, .int .i64 0, .int .i64 0] 23)
  obtain ⟨hb, hx⟩ := row_in w w #[.int .i64 0, .int .i64 0, .int .i64 0, .int .i64 0, .int .i64 0, .int .i64 0, .int .i64 0, .int .i64 0, .int .i64 0, .int .i64 0] #[.int .i64 0, .int .i64 0, .int .i64 0, .int .i64 0, .int .i64 0, .int .i64 0, .int .i64 0, .int .i64 0, .int .i64 0, .int .i64 0] 23 (Below.refl _ _)
  have HB := Lib.hid hb
  have HX := Lib.hid hx
  clear hb hx
  go_enter Tryd.func54, Tryd.ntmps54
  go_wp2_with (refine wpList_store_row rfl 23 (.tmp 2) (.tmp 6) rfl w.heap.size #[.int .i64 0, .int .i64 0, .int .i64 0, .int .i64 0, .int .i64 0, .int .i64 0, .int .i64 0, .int .i64 0, .int .i64 0, .int .i64 0] rfl rfl _ _ HN.out set_size' rfl (by simp [Value.oneCell']) ?_)
  have y0 := HX.out.cell 0 rfl; have y1 := HX.out.cell 1 rfl; have y2 := HX.out.cell 2 rfl; have y3 := HX.out.cell 3 rfl; have y4 := HX.out.cell 4 rfl; have y5 := HX.out.cell 5 rfl; have y6 := HX.out.cell 6 rfl; have y7 := HX.out.cell 7 rfl; have y8 := HX.out.cell 8 rfl; have y9 := HX.out.cell 9 rfl
  refine bodyPost_ret (v := .tuple #[.agg #[.int .i64 0, .int .i64 0, .int .i64 0, .int .i64 0, .int .i64 0, .int .i64 0, .int .i64 0, .int .i64 0, .int .i64 0, .int .i64 0], .slice none 0 0, .int .i64 k, .int .i64 4]) (by simp [results, Tryd.results54, go_sem, y0, y1, y2, y3, y4, y5, y6, y7, y8, y9]) rfl ?_
  exact ⟨rfl, HB.out⟩

set_option maxRecDepth 20000 in
set_option maxHeartbeats 4000000 in
theorem scrToSetting (s : List UInt8) (w : World) (hs : s.length < 4294967281) (hE : EnvR w.heap.size w) : Calls Tryd.prog 56 #[.string ⟨s.toArray⟩] w (ReadSgE s w) := by
  have hb0 : Below w.heap.size w (w.alloc (.cells #[.int .i64 0, .int .i64 0, .int .i64 0, .int .i64 0, .int .i64 0, .int .i64 0, .int .i64 0, .int .i64 0, .int .i64 0, .int .i64 0] 23)) := (Below.refl _ _).alloc (Nat.le_refl _) _
  have HX0 := Lib.hid (Blk.new w #[.int .i64 0, .int .i64 0, .int .i64 0, .int .i64 0, .int .i64 0, .int .i64 0, .int .i64 0, .int .i64 0, .int .i64 0, .int .i64 0] 23)
  have C := Lib.hid (scrReadSg s _ hs ((hE.below hb0).up hb0.size))
  have HB0 := Lib.hid hb0
  clear hb0 hE
  cases hr : readSg s with
  | none =>
    have HR := Lib.hid hr
    clear hr
    go_enter Tryd.func56, Tryd.ntmps56
    go_wp2_with (go_at_call 71; refine C.out.mono ?_)
    intro e w1 hpp; unfold ReadSgE at hpp; rw [HR.out] at hpp; obtain ⟨rfl, b1⟩ := hpp
    simp only [Option.isSome_none]
    have HB1 := Lib.hid (HB0.out.trans (b1.mono HB0.out.size))
    have HX1 := Lib.hid (HX0.out.kept b1)
    obtain ⟨hb2, hx2⟩ := set_in #[.int .i64 0, .int .i64 0, .int .i64 0, .int .i64 0, .int .i64 0, .int .i64 0, .int .i64 0, .int .i64 0, .int .i64 0, .int .i64 0] HB1.out HX1.out (Nat.le_refl _)
    have HB2 := Lib.hid hb2
    have HX2 := Lib.hid hx2
    clear b1 hb2 hx2 C HB0 HX0
    go_wp2_with (refine wpList_store_row rfl 23 (.tmp 2) (.tmp 6) rfl w.heap.size #[.int .i64 0, .int .i64 0, .int .i64 0, .int .i64 0, .int .i64 0, .int .i64 0, .int .i64 0, .int .i64 0, .int .i64 0, .int .i64 0] rfl rfl _ _ HX1.out set_size' rfl (by simp [Value.oneCell']) ?_)
    have y0 := HX2.out.cell 0 rfl; have y1 := HX2.out.cell 1 rfl; have y2 := HX2.out.cell 2 rfl; have y3 := HX2.out.cell 3 rfl; have y4 := HX2.out.cell 4 rfl; have y5 := HX2.out.cell 5 rfl; have y6 := HX2.out.cell 6 rfl; have y7 := HX2.out.cell 7 rfl; have y8 := HX2.out.cell 8 rfl; have y9 := HX2.out.cell 9 rfl
    refine bodyPost_ret (v := .tuple #[.agg #[.int .i64 0, .int .i64 0, .int .i64 0, .int .i64 0, .int .i64 0, .int .i64 0, .int .i64 0, .int .i64 0, .int .i64 0, .int .i64 0], .bool false]) (by simp [results, Tryd.results56, go_sem, y0, y1, y2, y3, y4, y5, y6, y7, y8, y9]) rfl ?_
    exact readSgE_no HR.out HB2.out
  | some a =>
    obtain ⟨sg1, sg2, sg3, sg4, sg5, sg6, sg7, sg8, sg9, sg10⟩ := a
    have HR := Lib.hid hr
    clear hr
    go_enter Tryd.func56, Tryd.ntmps56
    go_wp2_with (go_at_call 71; refine C.out.mono ?_)
    intro e w1 hpp; unfold ReadSgE at hpp; rw [HR.out] at hpp; obtain ⟨rfl, b1⟩ := hpp
    simp only [Option.isSome_some]
    unfold Sg.cells
    have HB1 := Lib.hid (HB0.out.trans (b1.mono HB0.out.size))
    have HX1 := Lib.hid (HX0.out.kept b1)
    obtain ⟨hb2, hx2⟩ := set_in #[.int .i64 sg1, .int .i64 sg2, .int .i64 sg3, .int .i64 sg4, .int .i64 sg5, .int .i64 sg6, .int .i64 sg7, .int .i64 sg8, .int .i64 sg9, .int .i64 sg10] HB1.out HX1.out (Nat.le_refl _)
    have HB2 := Lib.hid hb2
    have HX2 := Lib.hid hx2
    clear b1 hb2 hx2 C HB0 HX0
    go_wp2_with (refine wpList_store_row rfl 23 (.tmp 2) (.tmp 6) rfl w.heap.size #[.int .i64 sg1, .int .i64 sg2, .int .i64 sg3, .int .i64 sg4, .int .i64 sg5, .int .i64 sg6, .int .i64 sg7, .int .i64 sg8, .int .i64 sg9, .int .i64 sg10] rfl rfl _ _ HX1.out set_size' rfl (by simp [Value.oneCell']) ?_)
    have y0 := HX2.out.cell 0 rfl; have y1 := HX2.out.cell 1 rfl; have y2 := HX2.out.cell 2 rfl; have y3 := HX2.out.cell 3 rfl; have y4 := HX2.out.cell 4 rfl; have y5 := HX2.out.cell 5 rfl; have y6 := HX2.out.cell 6 rfl; have y7 := HX2.out.cell 7 rfl; have y8 := HX2.out.cell 8 rfl; have y9 := HX2.out.cell 9 rfl
    refine bodyPost_ret (v := .tuple #[.agg #[.int .i64 sg1, .int .i64 sg2, .int .i64 sg3, .int .i64 sg4, .int .i64 sg5, .int .i64 sg6, .int .i64 sg7, .int .i64 sg8, .int .i64 sg9, .int .i64 sg10], .bool true]) (by simp [results, Tryd.results56, go_sem, y0, y1, y2, y3, y4, y5, y6, y7, y8, y9]) rfl ?_
    exact readSgE_yes HR.out rfl HB2.out
end Go.Proofs.YtcinohmhhglpjaaDoor
/- Contract of package script's ToScript (printed by gen_scrts.py). -/
namespace Go.Proofs.YtcinohmhhglpjaaDoor
open Go.RowKit

theorem below_drewN (w : World) (n : Nat) : Below w.heap.size w (w.drewN n) := ⟨rfl, rfl, rfl, Nat.le_refl _, fun _ _ => rfl⟩
/-- What strings.Cut answers at a line's end. -/
def CutE (s : List UInt8) (w : World) (e : Ending) (w' : World) : Prop :=
  e = .returned (.tuple #[.string ⟨(Lib.cut s [10]).1.toArray⟩, .string ⟨(Lib.cut s [10]).2.1.toArray⟩, .bool (Lib.cut s [10]).2.2]) ∧ Below w.heap.size w w'
theorem cutC (s : List UInt8) (B : Nat) (w : World) (hs : s.length < 4294967281) (hE : EnvR B w) :
    Calls Tryd.prog 55 #[.string ⟨s.toArray⟩, .string ⟨#[10]⟩] w (CutE s w) := by
  obtain ⟨m, hm⟩ := hE.max
  refine (Tryd.strings_Cut ⟨s.toArray⟩ ⟨#[10]⟩ m w (by simpa [ByteArray.size] using hs) (hm w (Below.refl _ _))).mono ?_
  rintro e w' ⟨rfl, n, rfl⟩
  exact ⟨rfl, below_drewN w n⟩
/-- What ToScript answers. -/
def ToScrE (t : List UInt8) (w : World) (e : Ending) (w' : World) : Prop :=
  ∃ (A : Option Addr) (c : Nat), e = .returned (.tuple #[.agg ((readScript t).set.map (Value.int .i64)).toArray, .slice A (readScript t).acts.length c, .int .i64 (readScript t).line, .int .i64 (readScript t).err]) ∧
    OR w' w.heap.size 35 13 A c ((readScript t).acts.map Ap.cells) ∧ Below w.heap.size w w'
theorem toScrE_no {t : List UInt8} {w w' : World} {k : Int} {j : Nat} (h : readScript t = .bad j) (hk : k = (j : Int)) (hb : Below w.heap.size w w') : ToScrE t w (.returned (.tuple #[.agg #[.int .i64 0, .int .i64 0, .int .i64 0, .int .i64 0, .int .i64 0, .int .i64 0, .int .i64 0, .int .i64 0, .int .i64 0, .int .i64 0], .slice none 0 0, .int .i64 k, .int .i64 4])) w' := by
  subst hk; unfold ToScrE; rw [h]; exact ⟨none, 0, rfl, OR.nil _ _ _ _, hb⟩
theorem toScrE_large {t : List UInt8} {w w' : World} (h : 65536 < t.length) (hb : Below w.heap.size w w') : ToScrE t w (.returned (.tuple #[.agg #[.int .i64 0, .int .i64 0, .int .i64 0, .int .i64 0, .int .i64 0, .int .i64 0, .int .i64 0, .int .i64 0, .int .i64 0, .int .i64 0], .slice none 0 0, .int .i64 0, .int .i64 7])) w' := by
  have h : readScript t = .large := by unfold readScript; rw [if_pos h]
  unfold ToScrE; rw [h]; exact ⟨none, 0, rfl, OR.nil _ _ _ _, hb⟩
theorem toScrE_yes {t : List UInt8} {w w' : World} {zs : List Int} {as' : List Ap} {A : Option Addr} {c : Nat} {cs : Array Value} (h : readScript t = .ok zs as') (hv : cs = (zs.map (Value.int .i64)).toArray) (ho : OR w' w.heap.size 35 13 A c (as'.map Ap.cells)) (hb : Below w.heap.size w w') : ToScrE t w (.returned (.tuple #[.agg cs, .slice A as'.length c, .int .i64 0, .int .i64 0])) w' := by
  subst hv; unfold ToScrE; rw [h]; exact ⟨A, c, rfl, ho, hb⟩

set_option maxRecDepth 20000 in
set_option maxHeartbeats 4000000 in
theorem scrToScriptL (t : List UInt8) (w : World) (hl : 65536 < t.length) : Calls Tryd.prog 19 #[.string ⟨t.toArray⟩] w (ToScrE t w) := by
  have hb0 : Below w.heap.size w (w.alloc (.cells #[.int .i64 0, .int .i64 0, .int .i64 0, .int .i64 0, .int .i64 0, .int .i64 0, .int .i64 0, .int .i64 0, .int .i64 0, .int .i64 0] 23)) := (Below.refl _ _).alloc (Nat.le_refl _) _
  have HX0 := Lib.hid (Blk.new w #[.int .i64 0, .int .i64 0, .int .i64 0, .int .i64 0, .int .i64 0, .int .i64 0, .int .i64 0, .int .i64 0, .int .i64 0, .int .i64 0] 23)
  obtain ⟨hb2, hx2⟩ := set_in #[.int .i64 0, .int .i64 0, .int .i64 0, .int .i64 0, .int .i64 0, .int .i64 0, .int .i64 0, .int .i64 0, .int .i64 0, .int .i64 0] hb0 HX0.out (Nat.le_refl _)
  have HB2 := Lib.hid hb2
  have HX2 := Lib.hid hx2
  have HL := Lib.hid hl
  clear hb0 hb2 hx2
  go_enter Tryd.func19, Tryd.ntmps19
  go_wp2_with (refine wpList_store_row rfl 23 (.tmp 2) (.tmp 20) rfl w.heap.size #[.int .i64 0, .int .i64 0, .int .i64 0, .int .i64 0, .int .i64 0, .int .i64 0, .int .i64 0, .int .i64 0, .int .i64 0, .int .i64 0] rfl rfl _ _ HX0.out set_size' rfl (by simp [Value.oneCell']) ?_)
  have y0 := HX2.out.cell 0 rfl; have y1 := HX2.out.cell 1 rfl; have y2 := HX2.out.cell 2 rfl; have y3 := HX2.out.cell 3 rfl; have y4 := HX2.out.cell 4 rfl; have y5 := HX2.out.cell 5 rfl; have y6 := HX2.out.cell 6 rfl; have y7 := HX2.out.cell 7 rfl; have y8 := HX2.out.cell 8 rfl; have y9 := HX2.out.cell 9 rfl
  refine bodyPost_ret (v := .tuple #[.agg #[.int .i64 0, .int .i64 0, .int .i64 0, .int .i64 0, .int .i64 0, .int .i64 0, .int .i64 0, .int .i64 0, .int .i64 0, .int .i64 0], .slice none 0 0, .int .i64 0, .int .i64 7]) (by simp [results, Tryd.results19, go_sem, y0, y1, y2, y3, y4, y5, y6, y7, y8, y9]) rfl ?_
  exact toScrE_large HL.out HB2.out

/-- A first line that is none, or has no end. -/
theorem first_bad {t : List UInt8} (hl : t.length ≤ 65536) (h : readSg (Lib.cut t [10]).1 = none ∨ (Lib.cut t [10]).2.2 = false) : readScript t = .bad 1 := by
  unfold readScript
  rw [if_neg (by omega), readParts_step]
  have := readSetting_sg (Lib.cut t [10]).1
  rw [this]
  cases hc : readSg (Lib.cut t [10]).1 with
  | none => rfl
  | some x =>
    rcases h with h | h
    · rw [hc] at h; cases h
    · rw [h]; rfl
theorem first_good {t : List UInt8} (hl : t.length ≤ 65536) {x : Sg} (h : readSg (Lib.cut t [10]).1 = some x) (h2 : (Lib.cut t [10]).2.2 = true) : readScript t = match readSegs 2 (parts 10 (Lib.cut t [10]).2.1) [] with
    | .inl l => .ok x.list l
    | .inr k => .bad k := by
  unfold readScript
  rw [if_neg (by omega), readParts_step, readSetting_sg, h, h2]
  rfl

def strLen : Value → Nat
  | .string s => s.size
  | _ => 0
theorem strLen_of (l : List UInt8) : strLen (.string ⟨l.toArray⟩) = l.length := by simp [strLen, ByteArray.size]
set_option maxRecDepth 20000 in
set_option maxHeartbeats 4000000 in
theorem scrToScriptN (t : List UInt8) (w : World) (hE : EnvR w.heap.size w) (hl : t.length ≤ 65536) (h1 : readSg (Lib.cut t [10]).1 = none) : Calls Tryd.prog 19 #[.string ⟨t.toArray⟩] w (ToScrE t w) := by
  have hcl := cutL_len t
  have CC := Lib.hid (fun W (hW : EnvR W.heap.size W) => cutC t W.heap.size W (by omega) hW)
  have CS := Lib.hid (fun W (hW : EnvR W.heap.size W) => scrToSetting (Lib.cut t [10]).1 W (by omega) hW)
  have hb0 : Below w.heap.size w (w.alloc (.cells #[.int .i64 0, .int .i64 0, .int .i64 0, .int .i64 0, .int .i64 0, .int .i64 0, .int .i64 0, .int .i64 0, .int .i64 0, .int .i64 0] 23)) := (Below.refl _ _).alloc (Nat.le_refl _) _
  have HX0 := Lib.hid (Blk.new w #[.int .i64 0, .int .i64 0, .int .i64 0, .int .i64 0, .int .i64 0, .int .i64 0, .int .i64 0, .int .i64 0, .int .i64 0, .int .i64 0] 23)
  have HE0 := Lib.hid ((hE.below hb0).up hb0.size)
  have HB0 := Lib.hid hb0
  have HE := Lib.hid hE
  have hlt : ¬ (65536 < (t.length : Int)) := by omega
  have HR := Lib.hid h1
  have HRES := Lib.hid (first_bad hl (.inl h1))
  generalize hct : Lib.cut t [10] = ct at *
  obtain ⟨l, r, en⟩ := ct
  simp only at *
  have HCT := Lib.hid hct
  clear hb0 h1 hE hct
  go_enter Tryd.func19, Tryd.ntmps19
  go_wp2_with (go_at_call 55; refine (CC.out _ HE0.out).mono ?_)
  intro e w1 hpp; unfold CutE at hpp; rw [HCT.out] at hpp; obtain ⟨rfl, b1⟩ := hpp
  simp only
  have HB1 := Lib.hid (HB0.out.trans (b1.mono HB0.out.size))
  have HX1 := Lib.hid (HX0.out.kept b1)
  have HE1 := Lib.hid ((HE.out.below HB1.out).up HB1.out.size)
  clear b1 HB0 HX0 HE0 CC HCT
  go_wp2_with (go_at_call 56; refine (CS.out _ HE1.out).mono ?_)
  intro e w2 hpp; unfold ReadSgE at hpp; rw [HR.out] at hpp; obtain ⟨rfl, b2⟩ := hpp
  simp only [Option.isSome_none]
  have HB2 := Lib.hid (HB1.out.trans (b2.mono HB1.out.size))
  have HX2 := Lib.hid (HX1.out.kept b2)
  have hlt2 := HX2.out.lt
  have HN := Lib.hid (Blk.new w2 #[.int .i64 0, .int .i64 0, .int .i64 0, .int .i64 0, .int .i64 0, .int .i64 0, .int .i64 0, .int .i64 0, .int .i64 0, .int .i64 0] 23)
  obtain ⟨hb3, hx3⟩ := row_in w w2 #[.int .i64 0, .int .i64 0, .int .i64 0, .int .i64 0, .int .i64 0, .int .i64 0, .int .i64 0, .int .i64 0, .int .i64 0, .int .i64 0] #[.int .i64 0, .int .i64 0, .int .i64 0, .int .i64 0, .int .i64 0, .int .i64 0, .int .i64 0, .int .i64 0, .int .i64 0, .int .i64 0] 23 HB2.out
  have HB3 := Lib.hid hb3
  have HX3 := Lib.hid hx3
  have HY3 : Hid (Blk ((w2.alloc (.cells #[.int .i64 0, .int .i64 0, .int .i64 0, .int .i64 0, .int .i64 0, .int .i64 0, .int .i64 0, .int .i64 0, .int .i64 0, .int .i64 0] 23)).setRow w2.heap.size #[.int .i64 0, .int .i64 0, .int .i64 0, .int .i64 0, .int .i64 0, .int .i64 0, .int .i64 0, .int .i64 0, .int .i64 0, .int .i64 0]) w.heap.size 23 #[.int .i64 0, .int .i64 0, .int .i64 0, .int .i64 0, .int .i64 0, .int .i64 0, .int .i64 0, .int .i64 0, .int .i64 0, .int .i64 0]) := Lib.hid ((HX2.out.kept ((Below.refl _ _).alloc (Nat.le_refl _) _)).setRow_other (k := w2.heap.size) #[.int .i64 0, .int .i64 0, .int .i64 0, .int .i64 0, .int .i64 0, .int .i64 0, .int .i64 0, .int .i64 0, .int .i64 0, .int .i64 0] (by omega))
  clear b2 HB1 HX1 HE1 CS hb3 hx3 HB2 HX2
  obtain ⟨n2, hn2⟩ : ∃ n, n = w2.heap.size := ⟨_, rfl⟩
  go_wp2_with (refine wpList_store_row rfl 23 (.tmp 10) (.tmp 30) rfl w2.heap.size #[.int .i64 0, .int .i64 0, .int .i64 0, .int .i64 0, .int .i64 0, .int .i64 0, .int .i64 0, .int .i64 0, .int .i64 0, .int .i64 0] rfl rfl _ _ HN.out set_size' rfl (by simp [Value.oneCell']) ?_)
  clear HN
  generalize (w2.alloc (.cells #[.int .i64 0, .int .i64 0, .int .i64 0, .int .i64 0, .int .i64 0, .int .i64 0, .int .i64 0, .int .i64 0, .int .i64 0, .int .i64 0] 23)).setRow w2.heap.size #[.int .i64 0, .int .i64 0, .int .i64 0, .int .i64 0, .int .i64 0, .int .i64 0, .int .i64 0, .int .i64 0, .int .i64 0, .int .i64 0] = w3 at *
  go_wp2_with (go_at_call 54; refine (scrBad 1 _).mono ?_)
  rintro e w4 ⟨rfl, b4⟩
  have HB4 := Lib.hid (HB3.out.trans (b4.mono HB3.out.size))
  have HY4 := Lib.hid (HY3.out.kept b4)
  obtain ⟨hb5, hx5⟩ := set_in #[.int .i64 0, .int .i64 0, .int .i64 0, .int .i64 0, .int .i64 0, .int .i64 0, .int .i64 0, .int .i64 0, .int .i64 0, .int .i64 0] HB4.out HY4.out (Nat.le_refl _)
  have HB5 := Lib.hid hb5
  have HX5 := Lib.hid hx5
  clear b4 hb5 hx5 HB3 HX3 HY3
  go_wp2_with (refine wpList_store_row rfl 23 (.tmp 2) (.tmp 40) rfl w.heap.size #[.int .i64 0, .int .i64 0, .int .i64 0, .int .i64 0, .int .i64 0, .int .i64 0, .int .i64 0, .int .i64 0, .int .i64 0, .int .i64 0] rfl rfl _ _ HY4.out set_size' rfl (by simp [Value.oneCell']) ?_)
  have y0 := HX5.out.cell 0 rfl; have y1 := HX5.out.cell 1 rfl; have y2 := HX5.out.cell 2 rfl; have y3 := HX5.out.cell 3 rfl; have y4 := HX5.out.cell 4 rfl; have y5 := HX5.out.cell 5 rfl; have y6 := HX5.out.cell 6 rfl; have y7 := HX5.out.cell 7 rfl; have y8 := HX5.out.cell 8 rfl; have y9 := HX5.out.cell 9 rfl
  refine bodyPost_ret (v := .tuple #[.agg #[.int .i64 0, .int .i64 0, .int .i64 0, .int .i64 0, .int .i64 0, .int .i64 0, .int .i64 0, .int .i64 0, .int .i64 0, .int .i64 0], .slice none 0 0, .int .i64 1, .int .i64 4]) (by simp [results, Tryd.results19, go_sem, y0, y1, y2, y3, y4, y5, y6, y7, y8, y9]) rfl ?_
  exact toScrE_no HRES.out rfl HB5.out

set_option maxRecDepth 20000 in
set_option maxHeartbeats 4000000 in
theorem scrToScriptF (t : List UInt8) (w : World) (hE : EnvR w.heap.size w) (hl : t.length ≤ 65536) {g1 g2 g3 g4 g5 g6 g7 g8 g9 g10 : Int} (h1 : readSg (Lib.cut t [10]).1 = some ⟨g1, g2, g3, g4, g5, g6, g7, g8, g9, g10⟩) (h2 : (Lib.cut t [10]).2.2 = false) : Calls Tryd.prog 19 #[.string ⟨t.toArray⟩] w (ToScrE t w) := by
  have hcl := cutL_len t
  have CC := Lib.hid (fun W (hW : EnvR W.heap.size W) => cutC t W.heap.size W (by omega) hW)
  have CS := Lib.hid (fun W (hW : EnvR W.heap.size W) => scrToSetting (Lib.cut t [10]).1 W (by omega) hW)
  have hb0 : Below w.heap.size w (w.alloc (.cells #[.int .i64 0, .int .i64 0, .int .i64 0, .int .i64 0, .int .i64 0, .int .i64 0, .int .i64 0, .int .i64 0, .int .i64 0, .int .i64 0] 23)) := (Below.refl _ _).alloc (Nat.le_refl _) _
  have HX0 := Lib.hid (Blk.new w #[.int .i64 0, .int .i64 0, .int .i64 0, .int .i64 0, .int .i64 0, .int .i64 0, .int .i64 0, .int .i64 0, .int .i64 0, .int .i64 0] 23)
  have HE0 := Lib.hid ((hE.below hb0).up hb0.size)
  have HB0 := Lib.hid hb0
  have HE := Lib.hid hE
  have hlt : ¬ (65536 < (t.length : Int)) := by omega
  have HR := Lib.hid h1
  have HRES := Lib.hid (first_bad hl (.inr h2))
  generalize hct : Lib.cut t [10] = ct at *
  obtain ⟨l, r, en⟩ := ct
  simp only at *
  subst h2
  have HCT := Lib.hid hct
  clear hb0 h1 hE hct
  go_enter Tryd.func19, Tryd.ntmps19
  go_wp2_with (go_at_call 55; refine (CC.out _ HE0.out).mono ?_)
  intro e w1 hpp; unfold CutE at hpp; rw [HCT.out] at hpp; obtain ⟨rfl, b1⟩ := hpp
  simp only
  have HB1 := Lib.hid (HB0.out.trans (b1.mono HB0.out.size))
  have HX1 := Lib.hid (HX0.out.kept b1)
  have HE1 := Lib.hid ((HE.out.below HB1.out).up HB1.out.size)
  clear b1 HB0 HX0 HE0 CC HCT
  go_wp2_with (go_at_call 56; refine (CS.out _ HE1.out).mono ?_)
  intro e w2 hpp; unfold ReadSgE at hpp; rw [HR.out] at hpp; obtain ⟨rfl, b2⟩ := hpp
  simp only [Option.isSome_some]
  unfold Sg.cells
  have HB2 := Lib.hid (HB1.out.trans (b2.mono HB1.out.size))
  have HX2 := Lib.hid (HX1.out.kept b2)
  have hlt2 := HX2.out.lt
  have HN := Lib.hid (Blk.new w2 #[.int .i64 0, .int .i64 0, .int .i64 0, .int .i64 0, .int .i64 0, .int .i64 0, .int .i64 0, .int .i64 0, .int .i64 0, .int .i64 0] 23)
  obtain ⟨hb3, hx3⟩ := row_in w w2 #[.int .i64 0, .int .i64 0, .int .i64 0, .int .i64 0, .int .i64 0, .int .i64 0, .int .i64 0, .int .i64 0, .int .i64 0, .int .i64 0] #[.int .i64 g1, .int .i64 g2, .int .i64 g3, .int .i64 g4, .int .i64 g5, .int .i64 g6, .int .i64 g7, .int .i64 g8, .int .i64 g9, .int .i64 g10] 23 HB2.out
  have HB3 := Lib.hid hb3
  have HX3 := Lib.hid hx3
  have HY3 : Hid (Blk ((w2.alloc (.cells #[.int .i64 0, .int .i64 0, .int .i64 0, .int .i64 0, .int .i64 0, .int .i64 0, .int .i64 0, .int .i64 0, .int .i64 0, .int .i64 0] 23)).setRow w2.heap.size #[.int .i64 g1, .int .i64 g2, .int .i64 g3, .int .i64 g4, .int .i64 g5, .int .i64 g6, .int .i64 g7, .int .i64 g8, .int .i64 g9, .int .i64 g10]) w.heap.size 23 #[.int .i64 0, .int .i64 0, .int .i64 0, .int .i64 0, .int .i64 0, .int .i64 0, .int .i64 0, .int .i64 0, .int .i64 0, .int .i64 0]) := Lib.hid ((HX2.out.kept ((Below.refl _ _).alloc (Nat.le_refl _) _)).setRow_other (k := w2.heap.size) #[.int .i64 g1, .int .i64 g2, .int .i64 g3, .int .i64 g4, .int .i64 g5, .int .i64 g6, .int .i64 g7, .int .i64 g8, .int .i64 g9, .int .i64 g10] (by omega))
  clear b2 HB1 HX1 HE1 CS hb3 hx3 HB2 HX2
  obtain ⟨n2, hn2⟩ : ∃ n, n = w2.heap.size := ⟨_, rfl⟩
  go_wp2_with (refine wpList_store_row rfl 23 (.tmp 10) (.tmp 30) rfl w2.heap.size #[.int .i64 g1, .int .i64 g2, .int .i64 g3, .int .i64 g4, .int .i64 g5, .int .i64 g6, .int .i64 g7, .int .i64 g8, .int .i64 g9, .int .i64 g10] rfl rfl _ _ HN.out set_size' rfl (by simp [Value.oneCell']) ?_)
  clear HN
  generalize (w2.alloc (.cells #[.int .i64 0, .int .i64 0, .int .i64 0, .int .i64 0, .int .i64 0, .int .i64 0, .int .i64 0, .int .i64 0, .int .i64 0, .int .i64 0] 23)).setRow w2.heap.size #[.int .i64 g1, .int .i64 g2, .int .i64 g3, .int .i64 g4, .int .i64 g5, .int .i64 g6, .int .i64 g7, .int .i64 g8, .int .i64 g9, .int .i64 g10] = w3 at *
  go_wp2_with (go_at_call 54; refine (scrBad 1 _).mono ?_)
  rintro e w4 ⟨rfl, b4⟩
  have HB4 := Lib.hid (HB3.out.trans (b4.mono HB3.out.size))
  have HY4 := Lib.hid (HY3.out.kept b4)
  obtain ⟨hb5, hx5⟩ := set_in #[.int .i64 0, .int .i64 0, .int .i64 0, .int .i64 0, .int .i64 0, .int .i64 0, .int .i64 0, .int .i64 0, .int .i64 0, .int .i64 0] HB4.out HY4.out (Nat.le_refl _)
  have HB5 := Lib.hid hb5
  have HX5 := Lib.hid hx5
  clear b4 hb5 hx5 HB3 HX3 HY3
  go_wp2_with (refine wpList_store_row rfl 23 (.tmp 2) (.tmp 40) rfl w.heap.size #[.int .i64 0, .int .i64 0, .int .i64 0, .int .i64 0, .int .i64 0, .int .i64 0, .int .i64 0, .int .i64 0, .int .i64 0, .int .i64 0] rfl rfl _ _ HY4.out set_size' rfl (by simp [Value.oneCell']) ?_)
  have y0 := HX5.out.cell 0 rfl; have y1 := HX5.out.cell 1 rfl; have y2 := HX5.out.cell 2 rfl; have y3 := HX5.out.cell 3 rfl; have y4 := HX5.out.cell 4 rfl; have y5 := HX5.out.cell 5 rfl; have y6 := HX5.out.cell 6 rfl; have y7 := HX5.out.cell 7 rfl; have y8 := HX5.out.cell 8 rfl; have y9 := HX5.out.cell 9 rfl
  refine bodyPost_ret (v := .tuple #[.agg #[.int .i64 0, .int .i64 0, .int .i64 0, .int .i64 0, .int .i64 0, .int .i64 0, .int .i64 0, .int .i64 0, .int .i64 0, .int .i64 0], .slice none 0 0, .int .i64 1, .int .i64 4]) (by simp [results, Tryd.results19, go_sem, y0, y1, y2, y3, y4, y5, y6, y7, y8, y9]) rfl ?_
  exact toScrE_no HRES.out rfl HB5.out

set_option maxRecDepth 20000 in
set_option maxHeartbeats 4000000 in
theorem scrToScriptT (t : List UInt8) (w : World) (hE : EnvR w.heap.size w) (hl : t.length ≤ 65536) {g1 g2 g3 g4 g5 g6 g7 g8 g9 g10 : Int} (h1 : readSg (Lib.cut t [10]).1 = some ⟨g1, g2, g3, g4, g5, g6, g7, g8, g9, g10⟩) (h2 : (Lib.cut t [10]).2.2 = true) : Calls Tryd.prog 19 #[.string ⟨t.toArray⟩] w (ToScrE t w) := by
  have hcl := cutL_len t
  have CC := Lib.hid (fun W (hW : EnvR W.heap.size W) => cutC t W.heap.size W (by omega) hW)
  have CS := Lib.hid (fun W (hW : EnvR W.heap.size W) => scrToSetting (Lib.cut t [10]).1 W (by omega) hW)
  have hb0 : Below w.heap.size w (w.alloc (.cells #[.int .i64 0, .int .i64 0, .int .i64 0, .int .i64 0, .int .i64 0, .int .i64 0, .int .i64 0, .int .i64 0, .int .i64 0, .int .i64 0] 23)) := (Below.refl _ _).alloc (Nat.le_refl _) _
  have HX0 := Lib.hid (Blk.new w #[.int .i64 0, .int .i64 0, .int .i64 0, .int .i64 0, .int .i64 0, .int .i64 0, .int .i64 0, .int .i64 0, .int .i64 0, .int .i64 0] 23)
  have HE0 := Lib.hid ((hE.below hb0).up hb0.size)
  have HB0 := Lib.hid hb0
  have HE := Lib.hid hE
  have hlt : ¬ (65536 < (t.length : Int)) := by omega
  have HR := Lib.hid h1
  have HRES := Lib.hid (first_good hl h1 h2)
  generalize hct : Lib.cut t [10] = ct at *
  obtain ⟨l, r, en⟩ := ct
  simp only at *
  subst h2
  have HCT := Lib.hid hct
  clear hb0 h1 hE hct
  go_enter Tryd.func19, Tryd.ntmps19
  go_wp2_with (go_at_call 55; refine (CC.out _ HE0.out).mono ?_)
  intro e w1 hpp; unfold CutE at hpp; rw [HCT.out] at hpp; obtain ⟨rfl, b1⟩ := hpp
  simp only
  have HB1 := Lib.hid (HB0.out.trans (b1.mono HB0.out.size))
  have HX1 := Lib.hid (HX0.out.kept b1)
  have HE1 := Lib.hid ((HE.out.below HB1.out).up HB1.out.size)
  clear b1 HB0 HX0 HE0 CC HCT
  go_wp2_with (go_at_call 56; refine (CS.out _ HE1.out).mono ?_)
  intro e w2 hpp; unfold ReadSgE at hpp; rw [HR.out] at hpp; obtain ⟨rfl, b2⟩ := hpp
  simp only [Option.isSome_some]
  unfold Sg.cells
  have HB2 := Lib.hid (HB1.out.trans (b2.mono HB1.out.size))
  have HX2 := Lib.hid (HX1.out.kept b2)
  have hlt2 := HX2.out.lt
  have HN := Lib.hid (Blk.new w2 #[.int .i64 0, .int .i64 0, .int .i64 0, .int .i64 0, .int .i64 0, .int .i64 0, .int .i64 0, .int .i64 0, .int .i64 0, .int .i64 0] 23)
  obtain ⟨hb3, hx3⟩ := row_in w w2 #[.int .i64 0, .int .i64 0, .int .i64 0, .int .i64 0, .int .i64 0, .int .i64 0, .int .i64 0, .int .i64 0, .int .i64 0, .int .i64 0] #[.int .i64 g1, .int .i64 g2, .int .i64 g3, .int .i64 g4, .int .i64 g5, .int .i64 g6, .int .i64 g7, .int .i64 g8, .int .i64 g9, .int .i64 g10] 23 HB2.out
  have HB3 := Lib.hid hb3
  have HX3 := Lib.hid hx3
  have HY3 : Hid (Blk ((w2.alloc (.cells #[.int .i64 0, .int .i64 0, .int .i64 0, .int .i64 0, .int .i64 0, .int .i64 0, .int .i64 0, .int .i64 0, .int .i64 0, .int .i64 0] 23)).setRow w2.heap.size #[.int .i64 g1, .int .i64 g2, .int .i64 g3, .int .i64 g4, .int .i64 g5, .int .i64 g6, .int .i64 g7, .int .i64 g8, .int .i64 g9, .int .i64 g10]) w.heap.size 23 #[.int .i64 0, .int .i64 0, .int .i64 0, .int .i64 0, .int .i64 0, .int .i64 0, .int .i64 0, .int .i64 0, .int .i64 0, .int .i64 0]) := Lib.hid ((HX2.out.kept ((Below.refl _ _).alloc (Nat.le_refl _) _)).setRow_other (k := w2.heap.size) #[.int .i64 g1, .int .i64 g2, .int .i64 g3, .int .i64 g4, .int .i64 g5, .int .i64 g6, .int .i64 g7, .int .i64 g8, .int .i64 g9, .int .i64 g10] (by omega))
  clear b2 HB1 HX1 HE1 CS hb3 hx3 HB2 HX2
  obtain ⟨n2, hn2⟩ : ∃ n, n = w2.heap.size := ⟨_, rfl⟩
  go_wp2_with (refine wpList_store_row rfl 23 (.tmp 10) (.tmp 30) rfl w2.heap.size #[.int .i64 g1, .int .i64 g2, .int .i64 g3, .int .i64 g4, .int .i64 g5, .int .i64 g6, .int .i64 g7, .int .i64 g8, .int .i64 g9, .int .i64 g10] rfl rfl _ _ HN.out set_size' rfl (by simp [Value.oneCell']) ?_)
  clear HN
  generalize (w2.alloc (.cells #[.int .i64 0, .int .i64 0, .int .i64 0, .int .i64 0, .int .i64 0, .int .i64 0, .int .i64 0, .int .i64 0, .int .i64 0, .int .i64 0] 23)).setRow w2.heap.size #[.int .i64 g1, .int .i64 g2, .int .i64 g3, .int .i64 g4, .int .i64 g5, .int .i64 g6, .int .i64 g7, .int .i64 g8, .int .i64 g9, .int .i64 g10] = w3 at *
  have HO0 : Hid (OR w3 w.heap.size 35 13 none 0 []) := Lib.hid (OR.nil _ _ _ _)
  have hlr : r.length + 1 ≤ t.length := hcl.2.2 trivial
  clear hcl
  obtain ⟨R, hR⟩ : ∃ R, R = readSegs 2 (parts 10 r) [] := ⟨_, rfl⟩
  rw [← hR] at HRES
  have HR0 := Lib.hid hR.symm
  have HBG : Hid (Below w.heap.size w w3) := HB3
  have HEG := HE
  have hn3 : w.heap.size < n2 := by omega
  rw [← hn2] at HX3
  rw [← hn2]
  clear hR HB3 HE hn2 hlt2
  go_wp2_with fail
  go_loopw [8, 9, 12, 13] (fun s8 s9 s12 s13 wr => ∃ (q : List UInt8) (b : Bool) (k : Nat) (A : Option Addr) (c : Nat) (acc : List Ap), s8 = .string ⟨q.toArray⟩ ∧ s9 = .bool b ∧ s12 = .slice A acc.length c ∧ s13 = .int .i64 (k : Int) ∧ k ≤ acc.length + 2 ∧ acc.length + q.length ≤ 65536 ∧ Hid (readSegs k (parts 10 q) acc = R) ∧ Hid (OR wr w.heap.size 35 13 A c (acc.map Ap.cells)) ∧ Hid (Below w.heap.size w wr) ∧ Hid (Blk wr w.heap.size 23 #[.int .i64 0, .int .i64 0, .int .i64 0, .int .i64 0, .int .i64 0, .int .i64 0, .int .i64 0, .int .i64 0, .int .i64 0, .int .i64 0]) ∧ Hid (Blk wr n2 23 #[.int .i64 g1, .int .i64 g2, .int .i64 g3, .int .i64 g4, .int .i64 g5, .int .i64 g6, .int .i64 g7, .int .i64 g8, .int .i64 g9, .int .i64 g10])) (fun s8 _ _ _ _ => strLen s8)
  case atStart => exact ⟨r, true, 2, none, 0, [], rfl, rfl, rfl, rfl, by simp, by simp; omega, HR0, HO0, HBG, HY3, HX3⟩
  case round =>
    clear HR0 HO0 HBG HY3 HX3
    obtain ⟨q, b, k, A, c, acc, rfl, rfl, rfl, rfl, hk, hlen, HQ, HO, HB, HZ, HS⟩ := hrel
    by_cases hq : q = []
    · subst hq
      have HR9 : Hid (readScript t = .ok (Sg.list ⟨g1, g2, g3, g4, g5, g6, g7, g8, g9, g10⟩) acc) := Lib.hid (by rw [HRES.out, ← HQ.out, readSegs_end])
      have hal : ¬ (65536 < (acc.length : Int)) := by simp at hlen; omega
      have d0 := HS.out.cell 0 rfl; have d1 := HS.out.cell 1 rfl; have d2 := HS.out.cell 2 rfl; have d3 := HS.out.cell 3 rfl; have d4 := HS.out.cell 4 rfl; have d5 := HS.out.cell 5 rfl; have d6 := HS.out.cell 6 rfl; have d7 := HS.out.cell 7 rfl; have d8 := HS.out.cell 8 rfl; have d9 := HS.out.cell 9 rfl
      have hxx := HZ.out.setRow #[.int .i64 g1, .int .i64 g2, .int .i64 g3, .int .i64 g4, .int .i64 g5, .int .i64 g6, .int .i64 g7, .int .i64 g8, .int .i64 g9, .int .i64 g10]
      have HX9 := Lib.hid hxx
      have HB9 : Hid (Below w.heap.size w (wr.setRow w.heap.size #[.int .i64 g1, .int .i64 g2, .int .i64 g3, .int .i64 g4, .int .i64 g5, .int .i64 g6, .int .i64 g7, .int .i64 g8, .int .i64 g9, .int .i64 g10])) := Lib.hid (set_in #[.int .i64 g1, .int .i64 g2, .int .i64 g3, .int .i64 g4, .int .i64 g5, .int .i64 g6, .int .i64 g7, .int .i64 g8, .int .i64 g9, .int .i64 g10] HB.out HZ.out (Nat.le_refl _)).1
      have HO9 : Hid (OR (wr.setRow w.heap.size #[.int .i64 g1, .int .i64 g2, .int .i64 g3, .int .i64 g4, .int .i64 g5, .int .i64 g6, .int .i64 g7, .int .i64 g8, .int .i64 g9, .int .i64 g10]) w.heap.size 35 13 A c (acc.map Ap.cells)) := Lib.hid (by
        exact HO.out.of_block fun b hb => setRow_other _ _ _ _ (by rintro rfl; exact HO.out.ne_var HZ.out (by decide) hb))
      clear hxx HQ HO
      go_wp2_with (refine wpList_store_row rfl 23 (.tmp 2) (.tmp 80) rfl w.heap.size #[.int .i64 g1, .int .i64 g2, .int .i64 g3, .int .i64 g4, .int .i64 g5, .int .i64 g6, .int .i64 g7, .int .i64 g8, .int .i64 g9, .int .i64 g10] rfl rfl _ _ HZ.out set_size' rfl (by simp [Value.oneCell']) ?_)
      have y0 := HX9.out.cell 0 rfl; have y1 := HX9.out.cell 1 rfl; have y2 := HX9.out.cell 2 rfl; have y3 := HX9.out.cell 3 rfl; have y4 := HX9.out.cell 4 rfl; have y5 := HX9.out.cell 5 rfl; have y6 := HX9.out.cell 6 rfl; have y7 := HX9.out.cell 7 rfl; have y8 := HX9.out.cell 8 rfl; have y9 := HX9.out.cell 9 rfl
      refine bodyPost_ret (v := .tuple #[.agg #[.int .i64 g1, .int .i64 g2, .int .i64 g3, .int .i64 g4, .int .i64 g5, .int .i64 g6, .int .i64 g7, .int .i64 g8, .int .i64 g9, .int .i64 g10], .slice A acc.length c, .int .i64 0, .int .i64 0]) (by simp [results, Tryd.results19, go_sem, y0, y1, y2, y3, y4, y5, y6, y7, y8, y9]) rfl ?_
      exact toScrE_yes HR9.out rfl HO9.out HB9.out
    · have hcl := cutL_len q
      have hqn : (q == ([] : List UInt8)) = false := str_ne_of hq
      have hqe : q.isEmpty = false := by cases q with | nil => exact absurd rfl hq | cons a b => rfl
      have hqpos : 0 < q.length := List.length_pos_iff.2 hq
      have HST := Lib.hid (readSegs_step (k := k) (acc := acc) hq)
      have CC := Lib.hid (fun W (hW : EnvR W.heap.size W) => cutC q W.heap.size W (by omega) hW)
      have CA := Lib.hid (fun W (hW : EnvR W.heap.size W) => scrToAct (Lib.cut q [10]).1 W (by omega) hW)
      have HEr := Lib.hid ((HEG.out.below HB.out).up HB.out.size)
      generalize hct : Lib.cut q [10] = ct at *
      obtain ⟨ln, q2, en⟩ := ct
      simp only at *
      have HCT := Lib.hid hct
      clear hct hq
      go_wp2_with (go_at_call 55; refine (CC.out _ HEr.out).mono ?_)
      intro e x1 hpp; unfold CutE at hpp; rw [HCT.out] at hpp; obtain ⟨rfl, b1⟩ := hpp
      simp only
      have HB1 := Lib.hid (HB.out.trans (b1.mono HB.out.size))
      have HO1 := Lib.hid (HO.out.below b1)
      have HZ1 := Lib.hid (HZ.out.kept b1)
      have HS1 := Lib.hid (HS.out.kept b1)
      have HE1 := Lib.hid ((HEG.out.below HB1.out).up HB1.out.size)
      clear b1 HB HO HZ HS HEr CC HCT hqn hqe
      cases hra : readAct ln with
      | none =>
        have HR9 : Hid (readScript t = .bad k) := Lib.hid (by rw [HRES.out, ← HQ.out, HST.out, hra])
        have HRA := Lib.hid hra
        clear hra HST HQ
        go_wp2_with (go_at_call 14; refine (CA.out _ HE1.out).mono ?_)
        intro e x2 hpp; unfold ToActE at hpp; rw [HRA.out] at hpp; obtain ⟨rfl, b2⟩ := hpp
        simp only [Option.isSome_none]
        have HB2 := Lib.hid (HB1.out.trans (b2.mono HB1.out.size))
        have HO2 := Lib.hid (HO1.out.below b2)
        have HZ2 := Lib.hid (HZ1.out.kept b2)
        have HS2 := Lib.hid (HS1.out.kept b2)
        have hzl := HZ2.out.lt
        have hsl := HS2.out.lt
        have HN := Lib.hid (Blk.new x2 #[.int .i64 0, .int .i64 0, .int .i64 0, .int .i64 0, .int .u64 0, .int .u64 0, .int .u64 0, .int .u64 0, .int .i64 0, .string ⟨#[]⟩, .int .i64 0, .int .i64 0, .int .u64 0] 35)
        have hal : Below x2.heap.size x2 (x2.alloc (.cells #[.int .i64 0, .int .i64 0, .int .i64 0, .int .i64 0, .int .u64 0, .int .u64 0, .int .u64 0, .int .u64 0, .int .i64 0, .string ⟨#[]⟩, .int .i64 0, .int .i64 0, .int .u64 0] 35)) := (Below.refl _ _).alloc (Nat.le_refl _) _
        obtain ⟨hb3, hx3⟩ := laid_row x2 #[.int .i64 0, .int .i64 0, .int .i64 0, .int .i64 0, .int .u64 0, .int .u64 0, .int .u64 0, .int .u64 0, .int .i64 0, .string ⟨#[]⟩, .int .i64 0, .int .i64 0, .int .u64 0] #[.int .i64 0, .int .i64 0, .int .i64 0, .int .i64 0, .int .u64 0, .int .u64 0, .int .u64 0, .int .u64 0, .int .i64 0, .string ⟨#[]⟩, .int .i64 0, .int .i64 0, .int .u64 0] 35
        have HA3 := Lib.hid hx3
        have HB3 := Lib.hid (HB2.out.trans (hb3.mono HB2.out.size))
        have HO3 := Lib.hid (HO2.out.below hb3)
        have HZ3 := Lib.hid (HZ2.out.kept hb3)
        have HS3 := Lib.hid (HS2.out.kept hb3)
        clear b2 HB1 HO1 HZ1 HS1 HE1 CA hal hb3 hx3 HB2 HO2 HZ2 HS2
        go_wp2_with (refine wpList_store_row rfl 35 (.tmp 15) (.tmp 57) rfl x2.heap.size #[.int .i64 0, .int .i64 0, .int .i64 0, .int .i64 0, .int .u64 0, .int .u64 0, .int .u64 0, .int .u64 0, .int .i64 0, .string ⟨#[]⟩, .int .i64 0, .int .i64 0, .int .u64 0] rfl rfl _ _ HN.out act_size rfl (by simp [Value.oneCell']) ?_)
        clear HN
        generalize (x2.alloc (.cells #[.int .i64 0, .int .i64 0, .int .i64 0, .int .i64 0, .int .u64 0, .int .u64 0, .int .u64 0, .int .u64 0, .int .i64 0, .string ⟨#[]⟩, .int .i64 0, .int .i64 0, .int .u64 0] 35)).setRow x2.heap.size #[.int .i64 0, .int .i64 0, .int .i64 0, .int .i64 0, .int .u64 0, .int .u64 0, .int .u64 0, .int .u64 0, .int .i64 0, .string ⟨#[]⟩, .int .i64 0, .int .i64 0, .int .u64 0] = x3 at *
        obtain ⟨a15, ha15⟩ : ∃ n, n = x2.heap.size := ⟨_, rfl⟩
        rw [← ha15] at HA3
        simp only [← ha15]
        clear ha15
        go_wp2_with (go_at_call 54; refine (scrBad (k : Int) _).mono ?_)
        rintro e x4 ⟨rfl, b4⟩
        have HB4 : Hid (Below w.heap.size w x4) := Lib.hid (HB3.out.trans (b4.mono HB3.out.size))
        have HZ4 := Lib.hid (HZ3.out.kept b4)
        obtain ⟨hb5, hx5⟩ := set_in #[.int .i64 0, .int .i64 0, .int .i64 0, .int .i64 0, .int .i64 0, .int .i64 0, .int .i64 0, .int .i64 0, .int .i64 0, .int .i64 0] HB4.out HZ4.out (Nat.le_refl _)
        have HB5 := Lib.hid hb5
        have HX5 := Lib.hid hx5
        clear b4 hb5 hx5 HB3 HO3 HZ3 HS3
        go_wp2_with (refine wpList_store_row rfl 23 (.tmp 2) (.tmp 68) rfl w.heap.size #[.int .i64 0, .int .i64 0, .int .i64 0, .int .i64 0, .int .i64 0, .int .i64 0, .int .i64 0, .int .i64 0, .int .i64 0, .int .i64 0] rfl rfl _ _ HZ4.out set_size' rfl (by simp [Value.oneCell']) ?_)
        have y0 := HX5.out.cell 0 rfl; have y1 := HX5.out.cell 1 rfl; have y2 := HX5.out.cell 2 rfl; have y3 := HX5.out.cell 3 rfl; have y4 := HX5.out.cell 4 rfl; have y5 := HX5.out.cell 5 rfl; have y6 := HX5.out.cell 6 rfl; have y7 := HX5.out.cell 7 rfl; have y8 := HX5.out.cell 8 rfl; have y9 := HX5.out.cell 9 rfl
        refine bodyPost_ret (v := .tuple #[.agg #[.int .i64 0, .int .i64 0, .int .i64 0, .int .i64 0, .int .i64 0, .int .i64 0, .int .i64 0, .int .i64 0, .int .i64 0, .int .i64 0], .slice none 0 0, .int .i64 (k : Int), .int .i64 4]) (by simp [results, Tryd.results19, go_sem, y0, y1, y2, y3, y4, y5, y6, y7, y8, y9]) rfl ?_
        exact toScrE_no HR9.out rfl HB5.out
      | some a =>
        cases en with
        | false =>
          have HR9 : Hid (readScript t = .bad k) := Lib.hid (by rw [HRES.out, ← HQ.out, HST.out, hra]; rfl)
          have HRA := Lib.hid hra
          clear hra HST HQ
          obtain ⟨kind, ka, kb, kn, kdraw, kmask, ⟨ses, seq, op, key, amount, span, lease⟩⟩ := a
          go_wp2_with (go_at_call 14; refine (CA.out _ HE1.out).mono ?_)
          intro e x2 hpp; unfold ToActE at hpp; rw [HRA.out] at hpp; obtain ⟨rfl, b2⟩ := hpp
          simp only [Option.isSome_some]
          unfold Ap.cells Cm.cells
          simp only [List.cons_append, List.nil_append]
          have HB2 := Lib.hid (HB1.out.trans (b2.mono HB1.out.size))
          have HO2 := Lib.hid (HO1.out.below b2)
          have HZ2 := Lib.hid (HZ1.out.kept b2)
          have HS2 := Lib.hid (HS1.out.kept b2)
          have hzl := HZ2.out.lt
          have hsl := HS2.out.lt
          have HN := Lib.hid (Blk.new x2 #[.int .i64 0, .int .i64 0, .int .i64 0, .int .i64 0, .int .u64 0, .int .u64 0, .int .u64 0, .int .u64 0, .int .i64 0, .string ⟨#[]⟩, .int .i64 0, .int .i64 0, .int .u64 0] 35)
          have hal : Below x2.heap.size x2 (x2.alloc (.cells #[.int .i64 0, .int .i64 0, .int .i64 0, .int .i64 0, .int .u64 0, .int .u64 0, .int .u64 0, .int .u64 0, .int .i64 0, .string ⟨#[]⟩, .int .i64 0, .int .i64 0, .int .u64 0] 35)) := (Below.refl _ _).alloc (Nat.le_refl _) _
          obtain ⟨hb3, hx3⟩ := laid_row x2 #[.int .i64 0, .int .i64 0, .int .i64 0, .int .i64 0, .int .u64 0, .int .u64 0, .int .u64 0, .int .u64 0, .int .i64 0, .string ⟨#[]⟩, .int .i64 0, .int .i64 0, .int .u64 0] #[.int .i64 kind, .int .i64 ka, .int .i64 kb, .int .i64 kn, .int .u64 kdraw, .int .u64 kmask, .int .u64 ses, .int .u64 seq, .int .i64 op, .string ⟨key.toArray⟩, .int .i64 amount, .int .i64 span, .int .u64 lease] 35
          have HA3 := Lib.hid hx3
          have HB3 := Lib.hid (HB2.out.trans (hb3.mono HB2.out.size))
          have HO3 := Lib.hid (HO2.out.below hb3)
          have HZ3 := Lib.hid (HZ2.out.kept hb3)
          have HS3 := Lib.hid (HS2.out.kept hb3)
          clear b2 HB1 HO1 HZ1 HS1 HE1 CA hal hb3 hx3 HB2 HO2 HZ2 HS2
          go_wp2_with (refine wpList_store_row rfl 35 (.tmp 15) (.tmp 57) rfl x2.heap.size #[.int .i64 kind, .int .i64 ka, .int .i64 kb, .int .i64 kn, .int .u64 kdraw, .int .u64 kmask, .int .u64 ses, .int .u64 seq, .int .i64 op, .string ⟨key.toArray⟩, .int .i64 amount, .int .i64 span, .int .u64 lease] rfl rfl _ _ HN.out act_size rfl (by simp [Value.oneCell']) ?_)
          clear HN
          generalize (x2.alloc (.cells #[.int .i64 0, .int .i64 0, .int .i64 0, .int .i64 0, .int .u64 0, .int .u64 0, .int .u64 0, .int .u64 0, .int .i64 0, .string ⟨#[]⟩, .int .i64 0, .int .i64 0, .int .u64 0] 35)).setRow x2.heap.size #[.int .i64 kind, .int .i64 ka, .int .i64 kb, .int .i64 kn, .int .u64 kdraw, .int .u64 kmask, .int .u64 ses, .int .u64 seq, .int .i64 op, .string ⟨key.toArray⟩, .int .i64 amount, .int .i64 span, .int .u64 lease] = x3 at *
          obtain ⟨a15, ha15⟩ : ∃ n, n = x2.heap.size := ⟨_, rfl⟩
          rw [← ha15] at HA3
          simp only [← ha15]
          clear ha15
          go_wp2_with (go_at_call 54; refine (scrBad (k : Int) _).mono ?_)
          rintro e x4 ⟨rfl, b4⟩
          have HB4 : Hid (Below w.heap.size w x4) := Lib.hid (HB3.out.trans (b4.mono HB3.out.size))
          have HZ4 := Lib.hid (HZ3.out.kept b4)
          obtain ⟨hb5, hx5⟩ := set_in #[.int .i64 0, .int .i64 0, .int .i64 0, .int .i64 0, .int .i64 0, .int .i64 0, .int .i64 0, .int .i64 0, .int .i64 0, .int .i64 0] HB4.out HZ4.out (Nat.le_refl _)
          have HB5 := Lib.hid hb5
          have HX5 := Lib.hid hx5
          clear b4 hb5 hx5 HB3 HO3 HZ3 HS3
          go_wp2_with (refine wpList_store_row rfl 23 (.tmp 2) (.tmp 68) rfl w.heap.size #[.int .i64 0, .int .i64 0, .int .i64 0, .int .i64 0, .int .i64 0, .int .i64 0, .int .i64 0, .int .i64 0, .int .i64 0, .int .i64 0] rfl rfl _ _ HZ4.out set_size' rfl (by simp [Value.oneCell']) ?_)
          have y0 := HX5.out.cell 0 rfl; have y1 := HX5.out.cell 1 rfl; have y2 := HX5.out.cell 2 rfl; have y3 := HX5.out.cell 3 rfl; have y4 := HX5.out.cell 4 rfl; have y5 := HX5.out.cell 5 rfl; have y6 := HX5.out.cell 6 rfl; have y7 := HX5.out.cell 7 rfl; have y8 := HX5.out.cell 8 rfl; have y9 := HX5.out.cell 9 rfl
          refine bodyPost_ret (v := .tuple #[.agg #[.int .i64 0, .int .i64 0, .int .i64 0, .int .i64 0, .int .i64 0, .int .i64 0, .int .i64 0, .int .i64 0, .int .i64 0, .int .i64 0], .slice none 0 0, .int .i64 (k : Int), .int .i64 4]) (by simp [results, Tryd.results19, go_sem, y0, y1, y2, y3, y4, y5, y6, y7, y8, y9]) rfl ?_
          exact toScrE_no HR9.out rfl HB5.out
        | true =>
          have HQ2 : Hid (readSegs (k + 1) (parts 10 q2) (acc ++ [a]) = R) := Lib.hid (by rw [← HQ.out, HST.out, hra]; rfl)
          have hq2 : q2.length + 1 ≤ q.length := hcl.2.2 rfl
          have HRA := Lib.hid hra
          clear hra HST HQ
          obtain ⟨kind, ka, kb, kn, kdraw, kmask, ⟨ses, seq, op, key, amount, span, lease⟩⟩ := a
          go_wp2_with (go_at_call 14; refine (CA.out _ HE1.out).mono ?_)
          intro e x2 hpp; unfold ToActE at hpp; rw [HRA.out] at hpp; obtain ⟨rfl, b2⟩ := hpp
          simp only [Option.isSome_some]
          unfold Ap.cells Cm.cells
          simp only [List.cons_append, List.nil_append]
          have HB2 := Lib.hid (HB1.out.trans (b2.mono HB1.out.size))
          have HO2 := Lib.hid (HO1.out.below b2)
          have HZ2 := Lib.hid (HZ1.out.kept b2)
          have HS2 := Lib.hid (HS1.out.kept b2)
          have hzl := HZ2.out.lt
          have hsl := HS2.out.lt
          have HN := Lib.hid (Blk.new x2 #[.int .i64 0, .int .i64 0, .int .i64 0, .int .i64 0, .int .u64 0, .int .u64 0, .int .u64 0, .int .u64 0, .int .i64 0, .string ⟨#[]⟩, .int .i64 0, .int .i64 0, .int .u64 0] 35)
          have hal : Below x2.heap.size x2 (x2.alloc (.cells #[.int .i64 0, .int .i64 0, .int .i64 0, .int .i64 0, .int .u64 0, .int .u64 0, .int .u64 0, .int .u64 0, .int .i64 0, .string ⟨#[]⟩, .int .i64 0, .int .i64 0, .int .u64 0] 35)) := (Below.refl _ _).alloc (Nat.le_refl _) _
          obtain ⟨hb3, hx3⟩ := laid_row x2 #[.int .i64 0, .int .i64 0, .int .i64 0, .int .i64 0, .int .u64 0, .int .u64 0, .int .u64 0, .int .u64 0, .int .i64 0, .string ⟨#[]⟩, .int .i64 0, .int .i64 0, .int .u64 0] #[.int .i64 kind, .int .i64 ka, .int .i64 kb, .int .i64 kn, .int .u64 kdraw, .int .u64 kmask, .int .u64 ses, .int .u64 seq, .int .i64 op, .string ⟨key.toArray⟩, .int .i64 amount, .int .i64 span, .int .u64 lease] 35
          have HA3 := Lib.hid hx3
          have HB3 := Lib.hid (HB2.out.trans (hb3.mono HB2.out.size))
          have HO3 := Lib.hid (HO2.out.below hb3)
          have HZ3 := Lib.hid (HZ2.out.kept hb3)
          have HS3 := Lib.hid (HS2.out.kept hb3)
          clear b2 HB1 HO1 HZ1 HS1 HE1 CA hal hb3 hx3 HB2 HO2 HZ2 HS2
          obtain ⟨i0, hi0, hz0, hz1, hz2⟩ := info_parts act_info
          go_wp2_with (first
            | (refine wpList_store_row rfl 35 (.tmp 15) (.tmp 57) rfl x2.heap.size #[.int .i64 kind, .int .i64 ka, .int .i64 kb, .int .i64 kn, .int .u64 kdraw, .int .u64 kmask, .int .u64 ses, .int .u64 seq, .int .i64 op, .string ⟨key.toArray⟩, .int .i64 amount, .int .i64 span, .int .u64 lease] rfl rfl _ _ HN.out act_size rfl (by simp [Value.oneCell']) ?_
               clear HN
               generalize (x2.alloc (.cells #[.int .i64 0, .int .i64 0, .int .i64 0, .int .i64 0, .int .u64 0, .int .u64 0, .int .u64 0, .int .u64 0, .int .i64 0, .string ⟨#[]⟩, .int .i64 0, .int .i64 0, .int .u64 0] 35)).setRow x2.heap.size #[.int .i64 kind, .int .i64 ka, .int .i64 kb, .int .i64 kn, .int .u64 kdraw, .int .u64 kmask, .int .u64 ses, .int .u64 seq, .int .i64 op, .string ⟨key.toArray⟩, .int .i64 amount, .int .i64 span, .int .u64 lease] = x3 at *
               obtain ⟨a15, ha15⟩ : ∃ n, n = x2.heap.size := ⟨_, rfl⟩
               rw [← ha15] at HA3
               simp only [← ha15]
               clear ha15
               have hba5 : Below x3.heap.size x3 (x3.alloc (.cells #[.int .i64 kind, .int .i64 ka, .int .i64 kb, .int .i64 kn, .int .u64 kdraw, .int .u64 kmask, .int .u64 ses, .int .u64 seq, .int .i64 op, .string ⟨key.toArray⟩, .int .i64 amount, .int .i64 span, .int .u64 lease] 35)) := (Below.refl _ _).alloc (Nat.le_refl _) _
               have HB5 := Lib.hid (HB3.out.trans (hba5.mono HB3.out.size))
               have HO5 := Lib.hid (HO3.out.below hba5)
               have HZ5 := Lib.hid (HZ3.out.kept hba5)
               have HS5 := Lib.hid (HS3.out.kept hba5)
               have HL5 := Lib.hid (Blk.new x3 #[.int .i64 kind, .int .i64 ka, .int .i64 kb, .int .i64 kn, .int .u64 kdraw, .int .u64 kmask, .int .u64 ses, .int .u64 seq, .int .i64 op, .string ⟨key.toArray⟩, .int .i64 amount, .int .i64 span, .int .u64 lease] 35)
               have d0 := HA3.out.cell 0 rfl; have d1 := HA3.out.cell 1 rfl; have d2 := HA3.out.cell 2 rfl; have d3 := HA3.out.cell 3 rfl; have d4 := HA3.out.cell 4 rfl; have d5 := HA3.out.cell 5 rfl; have d6 := HA3.out.cell 6 rfl; have d7 := HA3.out.cell 7 rfl; have d8 := HA3.out.cell 8 rfl; have d9 := HA3.out.cell 9 rfl; have d10 := HA3.out.cell 10 rfl; have d11 := HA3.out.cell 11 rfl; have d12 := HA3.out.cell 12 rfl
               clear hba5 HB3 HO3 HZ3 HS3)
            | (at_builtin; refine wp_appendS _ rfl (.tmp 72) (.tmp 74) 24 35 rfl Tryd.underlying24 hi0 hz0 hz1 hz2 rfl (by decide) w.heap.size A (some ⟨x3.heap.size, 0, none⟩) c 1 (acc.map Ap.cells) [[.int .i64 kind, .int .i64 ka, .int .i64 kb, .int .i64 kn, .int .u64 kdraw, .int .u64 kmask, .int .u64 ses, .int .u64 seq, .int .i64 op, .string ⟨key.toArray⟩, .int .i64 amount, .int .i64 span, .int .u64 lease]] (by simp; rfl) (by simp; rfl) HO5.out (RS.lit HL5.out) (by simp) (by simp [Value.oneCell']) (by simp; omega) (by simp; omega) HB5.out.size ?_; intro zs A9 c9 w9 hys hy1 hy2 hrow hg9 hA9))
          have HYS : Hid (zs = (acc ++ [(⟨kind, ka, kb, kn, kdraw, kmask, ⟨ses, seq, op, key, amount, span, lease⟩⟩ : Ap)]).map Ap.cells) := Lib.hid (by rw [hys.out, List.map_append]; rfl)
          have HYL : Hid (zs.length = (acc ++ [(⟨kind, ka, kb, kn, kdraw, kmask, ⟨ses, seq, op, key, amount, span, lease⟩⟩ : Ap)]).length) := Lib.hid (by rw [HYS.out, List.length_map])
          have HO9 : Hid (OR w9 w.heap.size 35 13 A9 c9 ((acc ++ [(⟨kind, ka, kb, kn, kdraw, kmask, ⟨ses, seq, op, key, amount, span, lease⟩⟩ : Ap)]).map Ap.cells)) := Lib.hid (by rw [← HYS.out]; exact hrow)
          have HB9 := Lib.hid (HB5.out.grown hg9 HB5.out.size (fun b hb => (HO5.out.blk_lt b hb).1))
          have HZ9 := Lib.hid (HZ5.out.grown hg9 (fun e => HO5.out.ne_var HZ5.out (by decide) e))
          have HS9 := Lib.hid (HS5.out.grown hg9 (fun e => HO5.out.ne_var HS5.out (by decide) e))
          have hyl : (acc ++ [(⟨kind, ka, kb, kn, kdraw, kmask, ⟨ses, seq, op, key, amount, span, lease⟩⟩ : Ap)]).length = acc.length + 1 := by simp
          clear hys hy1 hy2 hrow hg9 hA9 HO5 HB5 HL5 HZ5 HS5 HYS HA3
          rw [HYL.out]
          clear HYL
          generalize (acc ++ [(⟨kind, ka, kb, kn, kdraw, kmask, ⟨ses, seq, op, key, amount, span, lease⟩⟩ : Ap)]) = acc9 at *
          go_roundw
          case rel => exact ⟨q2, true, k + 1, A9, c9, acc9, rfl, rfl, rfl, by go_num, by omega, by omega, HQ2, HO9, HB9, HZ9, HS9⟩
          case measure => simp only [strLen_of]; omega

theorem scrToScript (t : List UInt8) (w : World) (hE : EnvR w.heap.size w) : Calls Tryd.prog 19 #[.string ⟨t.toArray⟩] w (ToScrE t w) := by
  by_cases hl : t.length ≤ 65536
  · cases h1 : readSg (Lib.cut t [10]).1 with
    | none => exact scrToScriptN t w hE hl h1
    | some x =>
      obtain ⟨g1, g2, g3, g4, g5, g6, g7, g8, g9, g10⟩ := x
      cases h2 : (Lib.cut t [10]).2.2 with
      | false => exact scrToScriptF t w hE hl h1 h2
      | true => exact scrToScriptT t w hE hl h1 h2
  · exact scrToScriptL t w (by omega)
end Go.Proofs.YtcinohmhhglpjaaDoor
