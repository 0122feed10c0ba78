/- Contract of package script's ToCall (printed by gen_scrcl.py). -/
import Derived.Test.YtcinohmhhglpjaaDoorScrRC
namespace Go.Proofs.YtcinohmhhglpjaaDoor
open Go.RowKit

theorem results_row_and {P : Program} {fn : Func} {p q : Tmp} {ty : TypeId} (h : fn.results = #[.cell p ty, .tmp q]) (tmps : Array Value) (w : World) (g : Nat) (t : TypeId) (cs : Array Value) (fr : Nat × Nat) (d : TypeDesc) (v : Value)
    (hp : tmps.getD p undef = .pointer (some ⟨g, 0, none⟩)) (hq : tmps.getD q undef = v) (hg : w.heap[g]? = some (.cells cs t fr))
    (hu : P.underlying ty = some d) (hd : (match d with | .struct _ | .array _ _ => true | _ => false) = true) (hi : (P.info? ty).map (·.size) = some cs.size) :
    (results fn tmps).run P w = .ok (.tuple #[.agg cs, v]) w := by
  have hp' : tmps[p]?.getD undef = .pointer (some ⟨g, 0, none⟩) := by simpa using hp
  have hq' : tmps[q]?.getD undef = v := by simpa using hq
  simp [results, h, hp', hq', asAddr, run_loadVar_row w g t ty cs fr d hg hu hd hi]
theorem Cl.zero_wf : Cl.zero.wf := ⟨by unfold InI Cl.zero; simp, Go.Proofs.YtcinohmhhglpjaaDoor.zero_wf.1, by simp [Cl.zero], by unfold InI Cl.zero; simp, by unfold InI Cl.zero; simp, Go.Proofs.YtcinohmhhglpjaaDoor.zero_wf.2, by unfold InI Cl.zero; simp, by unfold InI Cl.zero; simp⟩
theorem Cl.zero_cells : Cl.zero.cells.toArray = #[.int .i64 0, .bool false, .bool false, .int .u64 0, .int .u64 0, .int .i64 0, .string ⟨#[]⟩, .int .i64 0, .int .i64 0, .int .u64 0, .string ⟨#[]⟩, .int .i64 0, .int .i64 0, .int .u64 0, .int .u64 0, .int .i64 0, .int .u64 0, .int .i64 0, .int .i64 0, .int .i64 0, .int .i64 0] := rfl
/-- What ToCall answers. -/
def ToCallE (s : List UInt8) (w : World) (e : Ending) (w' : World) : Prop :=
  e = .returned (.tuple #[.agg ((readCall s).getD Cl.zero).cells.toArray, .int .i64 (if (readCall s).isSome then 0 else 4)]) ∧ Below w.heap.size w w'
theorem toCallE_no {s : List UInt8} {w w' : World} (h : readCall s = none) (hb : Below w.heap.size w w') : ToCallE s w (.returned (.tuple #[.agg #[.int .i64 0, .bool false, .bool false, .int .u64 0, .int .u64 0, .int .i64 0, .string ⟨#[]⟩, .int .i64 0, .int .i64 0, .int .u64 0, .string ⟨#[]⟩, .int .i64 0, .int .i64 0, .int .u64 0, .int .u64 0, .int .i64 0, .int .u64 0, .int .i64 0, .int .i64 0, .int .i64 0, .int .i64 0], .int .i64 4])) w' := by
  unfold ToCallE; rw [h]; exact ⟨rfl, hb⟩
theorem toCallE_yes {s : List UInt8} {w w' : World} {x : Cl} {cs : Array Value} (h : readCall s = some x) (hv : cs = x.cells.toArray) (hb : Below w.heap.size w w') : ToCallE s w (.returned (.tuple #[.agg cs, .int .i64 0])) w' := by
  subst hv; unfold ToCallE; rw [h]; exact ⟨rfl, hb⟩
theorem readCl_open {s : List UInt8} {w w' : World} {e : Ending} (h : ReadClE s w e w') : ∃ (c : Cl) (cs : Array Value) (ok : Bool), c.wf ∧ cs = c.cells.toArray ∧ e = .returned (.tuple #[.agg cs, .bool ok]) ∧ Below w.heap.size w w' ∧ readCall s = if ok = true ∧ c.ok = true ∧ c.line = s then some c else none := by
  unfold ReadClE at h
  obtain ⟨h1, h2⟩ := h
  cases hr : readCl s with
  | none =>
    rw [hr] at h1
    refine ⟨Cl.zero, _, false, Cl.zero_wf, rfl, h1, h2, ?_⟩
    unfold readCl at hr
    unfold readCall
    rw [hr]
    simp
  | some c =>
    rw [hr] at h1
    have hw : c.wf := by
      unfold readCl whole at hr
      split at hr
      · rename_i x hx; injection hr with hr; subst hr; exact rdCall_wf hx
      · cases hr
    refine ⟨c, _, true, hw, rfl, h1, h2, ?_⟩
    unfold readCl at hr
    unfold readCall
    rw [hr]
    simp

set_option maxRecDepth 20000 in
set_option maxHeartbeats 4000000 in
theorem scrToCall (s : List UInt8) (w : World) (hs : s.length < 4294967281) (hE : EnvR w.heap.size w) : Calls Tryd.prog 18 #[.string ⟨s.toArray⟩] w (ToCallE s w) := by
  have hb0 : Below w.heap.size w (w.alloc (.cells #[.int .i64 0, .bool false, .bool false, .int .u64 0, .int .u64 0, .int .i64 0, .string ⟨#[]⟩, .int .i64 0, .int .i64 0, .int .u64 0, .string ⟨#[]⟩, .int .i64 0, .int .i64 0, .int .u64 0, .int .u64 0, .int .i64 0, .int .u64 0, .int .i64 0, .int .i64 0, .int .i64 0, .int .i64 0] 48)) := (Below.refl _ _).alloc (Nat.le_refl _) _
  have HX0 := Lib.hid (Blk.new w #[.int .i64 0, .bool false, .bool false, .int .u64 0, .int .u64 0, .int .i64 0, .string ⟨#[]⟩, .int .i64 0, .int .i64 0, .int .u64 0, .string ⟨#[]⟩, .int .i64 0, .int .i64 0, .int .u64 0, .int .u64 0, .int .i64 0, .int .u64 0, .int .i64 0, .int .i64 0, .int .i64 0, .int .i64 0] 48)
  have HRD := Lib.hid (scrReadCl s _ hs ((hE.below hb0).up hb0.size))
  have HB0 := Lib.hid hb0
  have HE := Lib.hid hE
  clear hb0 hE
  go_enter Tryd.func18, Tryd.ntmps18
  go_wp2_with (go_at_call 51; refine HRD.out.mono ?_)
  intro e w1 hpp
  obtain ⟨c, cs, ok, hc, hcs, rfl, b1, hrc⟩ := readCl_open hpp
  have HRC := Lib.hid hrc
  have HCS := Lib.hid hcs
  have hz : cs.size = 21 := by rw [hcs]; exact c.cells_size
  have h1c : cs.all (·.oneCell') = true := by rw [hcs]; exact c.cells_one
  have hsz : (Tryd.prog.info? 48).map (·.size) = some cs.size := by rw [hz]; exact call_size
  have HB1 := Lib.hid (HB0.out.trans (b1.mono HB0.out.size))
  have HX1 := Lib.hid (HX0.out.kept b1)
  have hlt := HX1.out.lt
  have HN := Lib.hid (Blk.new w1 #[.int .i64 0, .bool false, .bool false, .int .u64 0, .int .u64 0, .int .i64 0, .string ⟨#[]⟩, .int .i64 0, .int .i64 0, .int .u64 0, .string ⟨#[]⟩, .int .i64 0, .int .i64 0, .int .u64 0, .int .u64 0, .int .i64 0, .int .u64 0, .int .i64 0, .int .i64 0, .int .i64 0, .int .i64 0] 48)
  obtain ⟨hb2, hx2⟩ := row_in w w1 #[.int .i64 0, .bool false, .bool false, .int .u64 0, .int .u64 0, .int .i64 0, .string ⟨#[]⟩, .int .i64 0, .int .i64 0, .int .u64 0, .string ⟨#[]⟩, .int .i64 0, .int .i64 0, .int .u64 0, .int .u64 0, .int .i64 0, .int .u64 0, .int .i64 0, .int .i64 0, .int .i64 0, .int .i64 0] cs 48 HB1.out
  have HX2 : Hid (Blk ((w1.alloc (.cells #[.int .i64 0, .bool false, .bool false, .int .u64 0, .int .u64 0, .int .i64 0, .string ⟨#[]⟩, .int .i64 0, .int .i64 0, .int .u64 0, .string ⟨#[]⟩, .int .i64 0, .int .i64 0, .int .u64 0, .int .u64 0, .int .i64 0, .int .u64 0, .int .i64 0, .int .i64 0, .int .i64 0, .int .i64 0] 48)).setRow w1.heap.size cs) w.heap.size 48 #[.int .i64 0, .bool false, .bool false, .int .u64 0, .int .u64 0, .int .i64 0, .string ⟨#[]⟩, .int .i64 0, .int .i64 0, .int .u64 0, .string ⟨#[]⟩, .int .i64 0, .int .i64 0, .int .u64 0, .int .u64 0, .int .i64 0, .int .u64 0, .int .i64 0, .int .i64 0, .int .i64 0, .int .i64 0]) := Lib.hid ((HX1.out.kept ((Below.refl _ _).alloc (Nat.le_refl _) _)).setRow_other (k := w1.heap.size) cs (by omega))
  have HB2 := Lib.hid hb2
  have HC2 := Lib.hid hx2
  have HE2 := Lib.hid ((HE.out.below hb2).up hb2.size)
  obtain ⟨G, hG⟩ : ∃ G, G = w1.heap.size := ⟨_, rfl⟩
  clear hb2 hx2 b1 hpp hrc HRD HB0 HX0 HX1 HE HB1
  have CC := Lib.hid (fun W hW => scrCall c hc W hW)
  rw [← hcs] at CC
  clear hcs
  go_wp2_with (first
    | (refine wpList_store_row rfl 48 (.tmp 4) (.tmp 11) rfl w1.heap.size cs rfl rfl _ _ HN.out hsz (by simp [hz]) h1c ?_; clear HN; generalize (w1.alloc (.cells #[.int .i64 0, .bool false, .bool false, .int .u64 0, .int .u64 0, .int .i64 0, .string ⟨#[]⟩, .int .i64 0, .int .i64 0, .int .u64 0, .string ⟨#[]⟩, .int .i64 0, .int .i64 0, .int .u64 0, .int .u64 0, .int .i64 0, .int .u64 0, .int .i64 0, .int .i64 0, .int .i64 0, .int .i64 0] 48)).setRow w1.heap.size cs = z2 at *; simp only [← hG] at *)
    | (refine wpList_load_row rfl 48 (.tmp 4) rfl G rfl 48 cs (0, 0) _ HC2.out Tryd.underlying48 rfl hsz ?_)
    | (go_at_call 16; refine (CC.out _ HE2.out.env).mono ?_))
  intro e w3 hpp
  unfold CallE at hpp
  obtain ⟨rfl, b3⟩ := hpp
  have HB3 := Lib.hid (HB2.out.trans (b3.mono HB2.out.size))
  have HX3 := Lib.hid (HX2.out.kept b3)
  have HC3 := Lib.hid (HC2.out.kept b3)
  obtain ⟨hbz, hxz⟩ := set_in #[.int .i64 0, .bool false, .bool false, .int .u64 0, .int .u64 0, .int .i64 0, .string ⟨#[]⟩, .int .i64 0, .int .i64 0, .int .u64 0, .string ⟨#[]⟩, .int .i64 0, .int .i64 0, .int .u64 0, .int .u64 0, .int .i64 0, .int .u64 0, .int .i64 0, .int .i64 0, .int .i64 0, .int .i64 0] HB3.out HX3.out (Nat.le_refl _)
  obtain ⟨hbc, hxc⟩ := set_in cs HB3.out HX3.out (Nat.le_refl _)
  have HBZ := Lib.hid hbz
  have HXZ := Lib.hid hxz
  have HBC := Lib.hid hbc
  have HXC := Lib.hid hxc
  clear b3 hbz hxz hbc hxc HB2 HX2 HC2 HE2 CC
  rcases Bool.eq_false_or_eq_true c.ok with hok | hok
  · simp only [hok, if_true]
    by_cases hln : c.line = s
    · cases ok with
      | true =>
        have HR : Hid (readCall s = some c) := Lib.hid (by rw [HRC.out, if_pos ⟨rfl, hok, hln⟩])
        clear hok
        rw [hln]
        clear hln HXZ HBZ
        go_wp2_with (first
          | (refine wpList_load_row rfl 48 (.tmp 4) rfl G rfl 48 cs (0, 0) _ HC3.out Tryd.underlying48 rfl hsz ?_)
          | (refine wpList_store_row rfl 48 (.tmp 2) (.tmp 30) rfl w.heap.size cs rfl rfl _ _ HX3.out hsz (by simp [hz]) h1c ?_))
        refine bodyPost_ret (v := .tuple #[.agg cs, .int .i64 0]) (results_row_and rfl _ _ w.heap.size 48 cs (0, 0) _ _ rfl rfl HXC.out Tryd.underlying48 rfl hsz) rfl ?_
        exact toCallE_yes HR.out HCS.out HBC.out
      | false =>
        have HR : Hid (readCall s = none) := Lib.hid (by rw [HRC.out, if_neg (fun h => by simp at h)])
        clear hok hln
        go_wp2_with (refine wpList_store_row rfl 48 (.tmp 2) (.tmp 29) rfl w.heap.size #[.int .i64 0, .bool false, .bool false, .int .u64 0, .int .u64 0, .int .i64 0, .string ⟨#[]⟩, .int .i64 0, .int .i64 0, .int .u64 0, .string ⟨#[]⟩, .int .i64 0, .int .i64 0, .int .u64 0, .int .u64 0, .int .i64 0, .int .u64 0, .int .i64 0, .int .i64 0, .int .i64 0, .int .i64 0] rfl rfl _ _ HX3.out call_size rfl (by simp [Value.oneCell']) ?_)
        refine bodyPost_ret (v := .tuple #[.agg #[.int .i64 0, .bool false, .bool false, .int .u64 0, .int .u64 0, .int .i64 0, .string ⟨#[]⟩, .int .i64 0, .int .i64 0, .int .u64 0, .string ⟨#[]⟩, .int .i64 0, .int .i64 0, .int .u64 0, .int .u64 0, .int .i64 0, .int .u64 0, .int .i64 0, .int .i64 0, .int .i64 0, .int .i64 0], .int .i64 4]) (results_row_and rfl _ _ w.heap.size 48 #[.int .i64 0, .bool false, .bool false, .int .u64 0, .int .u64 0, .int .i64 0, .string ⟨#[]⟩, .int .i64 0, .int .i64 0, .int .u64 0, .string ⟨#[]⟩, .int .i64 0, .int .i64 0, .int .u64 0, .int .u64 0, .int .i64 0, .int .u64 0, .int .i64 0, .int .i64 0, .int .i64 0, .int .i64 0] (0, 0) _ _ rfl rfl HXZ.out Tryd.underlying48 rfl call_size) rfl ?_
        exact toCallE_no HR.out HBZ.out
    · have HR : Hid (readCall s = none) := Lib.hid (by rw [HRC.out, if_neg (fun h => hln h.2.2)])
      have hne : (c.line == s) = false := str_ne_of hln
      clear hok hln
      cases ok with
      | true =>
        go_wp2_with (refine wpList_store_row rfl 48 (.tmp 2) (.tmp 29) rfl w.heap.size #[.int .i64 0, .bool false, .bool false, .int .u64 0, .int .u64 0, .int .i64 0, .string ⟨#[]⟩, .int .i64 0, .int .i64 0, .int .u64 0, .string ⟨#[]⟩, .int .i64 0, .int .i64 0, .int .u64 0, .int .u64 0, .int .i64 0, .int .u64 0, .int .i64 0, .int .i64 0, .int .i64 0, .int .i64 0] rfl rfl _ _ HX3.out call_size rfl (by simp [Value.oneCell']) ?_)
        refine bodyPost_ret (v := .tuple #[.agg #[.int .i64 0, .bool false, .bool false, .int .u64 0, .int .u64 0, .int .i64 0, .string ⟨#[]⟩, .int .i64 0, .int .i64 0, .int .u64 0, .string ⟨#[]⟩, .int .i64 0, .int .i64 0, .int .u64 0, .int .u64 0, .int .i64 0, .int .u64 0, .int .i64 0, .int .i64 0, .int .i64 0, .int .i64 0], .int .i64 4]) (results_row_and rfl _ _ w.heap.size 48 #[.int .i64 0, .bool false, .bool false, .int .u64 0, .int .u64 0, .int .i64 0, .string ⟨#[]⟩, .int .i64 0, .int .i64 0, .int .u64 0, .string ⟨#[]⟩, .int .i64 0, .int .i64 0, .int .u64 0, .int .u64 0, .int .i64 0, .int .u64 0, .int .i64 0, .int .i64 0, .int .i64 0, .int .i64 0] (0, 0) _ _ rfl rfl HXZ.out Tryd.underlying48 rfl call_size) rfl ?_
        exact toCallE_no HR.out HBZ.out
      | false =>
        clear hne
        go_wp2_with (refine wpList_store_row rfl 48 (.tmp 2) (.tmp 29) rfl w.heap.size #[.int .i64 0, .bool false, .bool false, .int .u64 0, .int .u64 0, .int .i64 0, .string ⟨#[]⟩, .int .i64 0, .int .i64 0, .int .u64 0, .string ⟨#[]⟩, .int .i64 0, .int .i64 0, .int .u64 0, .int .u64 0, .int .i64 0, .int .u64 0, .int .i64 0, .int .i64 0, .int .i64 0, .int .i64 0] rfl rfl _ _ HX3.out call_size rfl (by simp [Value.oneCell']) ?_)
        refine bodyPost_ret (v := .tuple #[.agg #[.int .i64 0, .bool false, .bool false, .int .u64 0, .int .u64 0, .int .i64 0, .string ⟨#[]⟩, .int .i64 0, .int .i64 0, .int .u64 0, .string ⟨#[]⟩, .int .i64 0, .int .i64 0, .int .u64 0, .int .u64 0, .int .i64 0, .int .u64 0, .int .i64 0, .int .i64 0, .int .i64 0, .int .i64 0], .int .i64 4]) (results_row_and rfl _ _ w.heap.size 48 #[.int .i64 0, .bool false, .bool false, .int .u64 0, .int .u64 0, .int .i64 0, .string ⟨#[]⟩, .int .i64 0, .int .i64 0, .int .u64 0, .string ⟨#[]⟩, .int .i64 0, .int .i64 0, .int .u64 0, .int .u64 0, .int .i64 0, .int .u64 0, .int .i64 0, .int .i64 0, .int .i64 0, .int .i64 0] (0, 0) _ _ rfl rfl HXZ.out Tryd.underlying48 rfl call_size) rfl ?_
        exact toCallE_no HR.out HBZ.out
  · have HR : Hid (readCall s = none) := Lib.hid (by rw [HRC.out, if_neg (fun h => by rw [hok] at h; simp at h)])
    simp only [hok, Bool.false_eq_true, if_false]
    clear hok
    cases ok with
    | true =>
      go_wp2_with (refine wpList_store_row rfl 48 (.tmp 2) (.tmp 29) rfl w.heap.size #[.int .i64 0, .bool false, .bool false, .int .u64 0, .int .u64 0, .int .i64 0, .string ⟨#[]⟩, .int .i64 0, .int .i64 0, .int .u64 0, .string ⟨#[]⟩, .int .i64 0, .int .i64 0, .int .u64 0, .int .u64 0, .int .i64 0, .int .u64 0, .int .i64 0, .int .i64 0, .int .i64 0, .int .i64 0] rfl rfl _ _ HX3.out call_size rfl (by simp [Value.oneCell']) ?_)
      refine bodyPost_ret (v := .tuple #[.agg #[.int .i64 0, .bool false, .bool false, .int .u64 0, .int .u64 0, .int .i64 0, .string ⟨#[]⟩, .int .i64 0, .int .i64 0, .int .u64 0, .string ⟨#[]⟩, .int .i64 0, .int .i64 0, .int .u64 0, .int .u64 0, .int .i64 0, .int .u64 0, .int .i64 0, .int .i64 0, .int .i64 0, .int .i64 0], .int .i64 4]) (results_row_and rfl _ _ w.heap.size 48 #[.int .i64 0, .bool false, .bool false, .int .u64 0, .int .u64 0, .int .i64 0, .string ⟨#[]⟩, .int .i64 0, .int .i64 0, .int .u64 0, .string ⟨#[]⟩, .int .i64 0, .int .i64 0, .int .u64 0, .int .u64 0, .int .i64 0, .int .u64 0, .int .i64 0, .int .i64 0, .int .i64 0, .int .i64 0] (0, 0) _ _ rfl rfl HXZ.out Tryd.underlying48 rfl call_size) rfl ?_
      exact toCallE_no HR.out HBZ.out
    | false =>
      go_wp2_with (refine wpList_store_row rfl 48 (.tmp 2) (.tmp 29) rfl w.heap.size #[.int .i64 0, .bool false, .bool false, .int .u64 0, .int .u64 0, .int .i64 0, .string ⟨#[]⟩, .int .i64 0, .int .i64 0, .int .u64 0, .string ⟨#[]⟩, .int .i64 0, .int .i64 0, .int .u64 0, .int .u64 0, .int .i64 0, .int .u64 0, .int .i64 0, .int .i64 0, .int .i64 0, .int .i64 0] rfl rfl _ _ HX3.out call_size rfl (by simp [Value.oneCell']) ?_)
      refine bodyPost_ret (v := .tuple #[.agg #[.int .i64 0, .bool false, .bool false, .int .u64 0, .int .u64 0, .int .i64 0, .string ⟨#[]⟩, .int .i64 0, .int .i64 0, .int .u64 0, .string ⟨#[]⟩, .int .i64 0, .int .i64 0, .int .u64 0, .int .u64 0, .int .i64 0, .int .u64 0, .int .i64 0, .int .i64 0, .int .i64 0, .int .i64 0], .int .i64 4]) (results_row_and rfl _ _ w.heap.size 48 #[.int .i64 0, .bool false, .bool false, .int .u64 0, .int .u64 0, .int .i64 0, .string ⟨#[]⟩, .int .i64 0, .int .i64 0, .int .u64 0, .string ⟨#[]⟩, .int .i64 0, .int .i64 0, .int .u64 0, .int .u64 0, .int .i64 0, .int .u64 0, .int .i64 0, .int .i64 0, .int .i64 0, .int .i64 0] (0, 0) _ _ rfl rfl HXZ.out Tryd.underlying48 rfl call_size) rfl ?_
      exact toCallE_no HR.out HBZ.out
end Go.Proofs.YtcinohmhhglpjaaDoor
