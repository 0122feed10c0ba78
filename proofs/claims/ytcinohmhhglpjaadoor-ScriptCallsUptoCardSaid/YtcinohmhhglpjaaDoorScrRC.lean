/- Contracts of package script: read[scupper/api.Call]. -/
import Derived.Test.YtcinohmhhglpjaaDoorScrWd
namespace Go.Proofs.YtcinohmhhglpjaaDoor
open Go.RowKit

theorem results_two {P : Program} {fn : Func} {p q : Tmp} {ty tb : TypeId} (h : fn.results = #[.cell p ty, .cell q tb]) (tmps : Array Value) (w : World) (g : Nat) (t : TypeId) (cs : Array Value) (fr : Nat × Nat) (d : TypeDesc) (x : Addr) (v : Value)
    (hp : tmps.getD p undef = .pointer (some ⟨g, 0, none⟩)) (hq : tmps.getD q undef = .pointer (some x)) (hg : w.heap[g]? = some (.cells cs t fr))
    (hu : P.underlying ty = some d) (hd : (match d with | .struct _ | .array _ _ => true | _ => false) = true) (hi : (P.info? ty).map (·.size) = some cs.size) (hl : (loadVar tb x).run P w = .ok v w) :
    (results fn tmps).run P w = .ok (.tuple #[.agg cs, v]) w := by
  have hp' : tmps[p]?.getD undef = .pointer (some ⟨g, 0, none⟩) := by simpa using hp
  have hq' : tmps[q]?.getD undef = .pointer (some x) := by simpa using hq
  simp [results, h, hp', hq', asAddr, run_loadVar_row w g t ty cs fr d hg hu hd hi, hl]
theorem Cl.cells_size (c : Cl) : c.cells.toArray.size = 21 := by simp [Cl.cells, Cm.cells, Rp.cells]
theorem Cl.cells_one (c : Cl) : c.cells.toArray.all (·.oneCell') = true := by simp [Cl.cells, Cm.cells, Rp.cells, Value.oneCell']
set_option maxRecDepth 20000 in
set_option maxHeartbeats 600000 in
theorem catchClYes (x k : Nat) (older : List PanicEntry) (w : World) (hxk : x ≠ k) (cs : Array Value) (hcs : cs.size = 21) (v : Value) (hx : Blk w x 48 cs) (hk : Blk w k 4 #[v]) :
    CallsD Tryd.prog 67 #[.pointer (some ⟨x, 0, none⟩), .pointer (some ⟨k, 0, none⟩)] (.panicking ({ v := faultV, recovered := false } :: older)) w fun e u' w' =>
      e = .returned (.tuple #[]) ∧ u' = .panicking ({ v := faultV, recovered := true } :: older) ∧ Blk w' x 48 #[.int .i64 0, .bool false, .bool false, .int .u64 0, .int .u64 0, .int .i64 0, .string ⟨#[]⟩, .int .i64 0, .int .i64 0, .int .u64 0, .string ⟨#[]⟩, .int .i64 0, .int .i64 0, .int .u64 0, .int .u64 0, .int .i64 0, .int .u64 0, .int .i64 0, .int .i64 0, .int .i64 0, .int .i64 0] ∧ Blk w' k 4 #[.bool false] ∧ Mods (fun i => i = x ∨ i = k) w w' := by
  have hta : ∀ W, (Instr.typeAssert (.iface 114 (.agg #[])) 20 114 true).run Tryd.prog W = .ok (.tuple #[.agg #[], .bool true]) W := fun W => by kernel_rfl
  refine callsD_of_wpS Tryd.func67 rfl fun c₀ cs hu => ?_
  apply wpS_seq
  apply wpS_region
  simp [wpOpsS, go_sem, recoverD, hu, Tryd.ntmps67, Exit.thenS, faultV]
  rw [show (#[Value.pointer (some ⟨x, 0, none⟩), Value.pointer (some ⟨k, 0, none⟩)] ++ ((Array.replicate 16 undef).setIfInBounds 4 (Value.iface 114 (.agg #[]))).setIfInBounds 0 (Value.iface 114 (.agg #[])) : Array Value) = #[.pointer (some ⟨x, 0, none⟩), .pointer (some ⟨k, 0, none⟩), .iface 114 (.agg #[]), undef, undef, undef, .iface 114 (.agg #[]), undef, undef, undef, undef, undef, undef, undef, undef, undef, undef, undef] from rfl]
  refine wpS_of_wp ?_
  have hb1 : Below w.heap.size w ((w.alloc (.cells #[] 114)).alloc (.cells #[.int .i64 0, .bool false, .bool false, .int .u64 0, .int .u64 0, .int .i64 0, .string ⟨#[]⟩, .int .i64 0, .int .i64 0, .int .u64 0, .string ⟨#[]⟩, .int .i64 0, .int .i64 0, .int .u64 0, .int .u64 0, .int .i64 0, .int .u64 0, .int .i64 0, .int .i64 0, .int .i64 0, .int .i64 0] 48)) := ((Below.refl _ _).alloc (Nat.le_refl _) _).alloc (by simp) _
  have HX1 := Lib.hid (hx.kept hb1)
  have HK1 := Lib.hid (hk.kept hb1)
  have HK2 : Hid (Blk (((w.alloc (.cells #[] 114)).alloc (.cells #[.int .i64 0, .bool false, .bool false, .int .u64 0, .int .u64 0, .int .i64 0, .string ⟨#[]⟩, .int .i64 0, .int .i64 0, .int .u64 0, .string ⟨#[]⟩, .int .i64 0, .int .i64 0, .int .u64 0, .int .u64 0, .int .i64 0, .int .u64 0, .int .i64 0, .int .i64 0, .int .i64 0, .int .i64 0] 48)).setRow x #[.int .i64 0, .bool false, .bool false, .int .u64 0, .int .u64 0, .int .i64 0, .string ⟨#[]⟩, .int .i64 0, .int .i64 0, .int .u64 0, .string ⟨#[]⟩, .int .i64 0, .int .i64 0, .int .u64 0, .int .u64 0, .int .i64 0, .int .u64 0, .int .i64 0, .int .i64 0, .int .i64 0, .int .i64 0]) k 4 #[v]) := Lib.hid (HK1.out.setRow_other _ hxk.symm)
  have HX2 : Hid (Blk (((w.alloc (.cells #[] 114)).alloc (.cells #[.int .i64 0, .bool false, .bool false, .int .u64 0, .int .u64 0, .int .i64 0, .string ⟨#[]⟩, .int .i64 0, .int .i64 0, .int .u64 0, .string ⟨#[]⟩, .int .i64 0, .int .i64 0, .int .u64 0, .int .u64 0, .int .i64 0, .int .u64 0, .int .i64 0, .int .i64 0, .int .i64 0, .int .i64 0] 48)).setRow x #[.int .i64 0, .bool false, .bool false, .int .u64 0, .int .u64 0, .int .i64 0, .string ⟨#[]⟩, .int .i64 0, .int .i64 0, .int .u64 0, .string ⟨#[]⟩, .int .i64 0, .int .i64 0, .int .u64 0, .int .u64 0, .int .i64 0, .int .u64 0, .int .i64 0, .int .i64 0, .int .i64 0, .int .i64 0]) x 48 #[.int .i64 0, .bool false, .bool false, .int .u64 0, .int .u64 0, .int .i64 0, .string ⟨#[]⟩, .int .i64 0, .int .i64 0, .int .u64 0, .string ⟨#[]⟩, .int .i64 0, .int .i64 0, .int .u64 0, .int .u64 0, .int .i64 0, .int .u64 0, .int .i64 0, .int .i64 0, .int .i64 0, .int .i64 0]) := Lib.hid (HX1.out.setRow _)
  have k0 := HK2.out.cell 0 rfl
  have kf := HK2.out.free 0
  have HX3 : Hid (Blk ((((w.alloc (.cells #[] 114)).alloc (.cells #[.int .i64 0, .bool false, .bool false, .int .u64 0, .int .u64 0, .int .i64 0, .string ⟨#[]⟩, .int .i64 0, .int .i64 0, .int .u64 0, .string ⟨#[]⟩, .int .i64 0, .int .i64 0, .int .u64 0, .int .u64 0, .int .i64 0, .int .u64 0, .int .i64 0, .int .i64 0, .int .i64 0, .int .i64 0] 48)).setRow x #[.int .i64 0, .bool false, .bool false, .int .u64 0, .int .u64 0, .int .i64 0, .string ⟨#[]⟩, .int .i64 0, .int .i64 0, .int .u64 0, .string ⟨#[]⟩, .int .i64 0, .int .i64 0, .int .u64 0, .int .u64 0, .int .i64 0, .int .u64 0, .int .i64 0, .int .i64 0, .int .i64 0, .int .i64 0]).setCell ⟨k, 0, none⟩ (.bool false)) x 48 #[.int .i64 0, .bool false, .bool false, .int .u64 0, .int .u64 0, .int .i64 0, .string ⟨#[]⟩, .int .i64 0, .int .i64 0, .int .u64 0, .string ⟨#[]⟩, .int .i64 0, .int .i64 0, .int .u64 0, .int .u64 0, .int .i64 0, .int .u64 0, .int .i64 0, .int .i64 0, .int .i64 0, .int .i64 0]) := Lib.hid (HX2.out.setCell_other _ hxk)
  have HK3 : Hid (Blk ((((w.alloc (.cells #[] 114)).alloc (.cells #[.int .i64 0, .bool false, .bool false, .int .u64 0, .int .u64 0, .int .i64 0, .string ⟨#[]⟩, .int .i64 0, .int .i64 0, .int .u64 0, .string ⟨#[]⟩, .int .i64 0, .int .i64 0, .int .u64 0, .int .u64 0, .int .i64 0, .int .u64 0, .int .i64 0, .int .i64 0, .int .i64 0, .int .i64 0] 48)).setRow x #[.int .i64 0, .bool false, .bool false, .int .u64 0, .int .u64 0, .int .i64 0, .string ⟨#[]⟩, .int .i64 0, .int .i64 0, .int .u64 0, .string ⟨#[]⟩, .int .i64 0, .int .i64 0, .int .u64 0, .int .u64 0, .int .i64 0, .int .u64 0, .int .i64 0, .int .i64 0, .int .i64 0, .int .i64 0]).setCell ⟨k, 0, none⟩ (.bool false)) k 4 #[.bool false]) := Lib.hid (HK2.out.setCell 0 _)
  have HM3 : Hid (Mods (fun i => i = x ∨ i = k) w ((((w.alloc (.cells #[] 114)).alloc (.cells #[.int .i64 0, .bool false, .bool false, .int .u64 0, .int .u64 0, .int .i64 0, .string ⟨#[]⟩, .int .i64 0, .int .i64 0, .int .u64 0, .string ⟨#[]⟩, .int .i64 0, .int .i64 0, .int .u64 0, .int .u64 0, .int .i64 0, .int .u64 0, .int .i64 0, .int .i64 0, .int .i64 0, .int .i64 0] 48)).setRow x #[.int .i64 0, .bool false, .bool false, .int .u64 0, .int .u64 0, .int .i64 0, .string ⟨#[]⟩, .int .i64 0, .int .i64 0, .int .u64 0, .string ⟨#[]⟩, .int .i64 0, .int .i64 0, .int .u64 0, .int .u64 0, .int .i64 0, .int .u64 0, .int .i64 0, .int .i64 0, .int .i64 0, .int .i64 0]).setCell ⟨k, 0, none⟩ (.bool false))) := Lib.hid (((Mods.of_below hb1).setRow x (.inl (.inl rfl)) _).setCell _ (.inl (.inr rfl)) _)
  have HL : Hid (Blk ((w.alloc (.cells #[] 114)).alloc (.cells #[.int .i64 0, .bool false, .bool false, .int .u64 0, .int .u64 0, .int .i64 0, .string ⟨#[]⟩, .int .i64 0, .int .i64 0, .int .u64 0, .string ⟨#[]⟩, .int .i64 0, .int .i64 0, .int .u64 0, .int .u64 0, .int .i64 0, .int .u64 0, .int .i64 0, .int .i64 0, .int .i64 0, .int .i64 0] 48)) (w.heap.size + 1) 48 #[.int .i64 0, .bool false, .bool false, .int .u64 0, .int .u64 0, .int .i64 0, .string ⟨#[]⟩, .int .i64 0, .int .i64 0, .int .u64 0, .string ⟨#[]⟩, .int .i64 0, .int .i64 0, .int .u64 0, .int .u64 0, .int .i64 0, .int .u64 0, .int .i64 0, .int .i64 0, .int .i64 0, .int .i64 0]) := Lib.hid (by have := Blk.new (w.alloc (.cells #[] 114)) #[.int .i64 0, .bool false, .bool false, .int .u64 0, .int .u64 0, .int .i64 0, .string ⟨#[]⟩, .int .i64 0, .int .i64 0, .int .u64 0, .string ⟨#[]⟩, .int .i64 0, .int .i64 0, .int .u64 0, .int .u64 0, .int .i64 0, .int .u64 0, .int .i64 0, .int .i64 0, .int .i64 0, .int .i64 0] 48; simpa using this)
  go_wp2_with (first
    | (refine wpList_load_row rfl 48 (.tmp 5) rfl (w.heap.size + 1) rfl 48 #[.int .i64 0, .bool false, .bool false, .int .u64 0, .int .u64 0, .int .i64 0, .string ⟨#[]⟩, .int .i64 0, .int .i64 0, .int .u64 0, .string ⟨#[]⟩, .int .i64 0, .int .i64 0, .int .u64 0, .int .u64 0, .int .i64 0, .int .u64 0, .int .i64 0, .int .i64 0, .int .i64 0, .int .i64 0] (0, 0) _ HL.out Tryd.underlying48 rfl call_size ?_)
    | (refine wpList_store_row rfl 48 (.tmp 0) (.tmp 17) rfl x #[.int .i64 0, .bool false, .bool false, .int .u64 0, .int .u64 0, .int .i64 0, .string ⟨#[]⟩, .int .i64 0, .int .i64 0, .int .u64 0, .string ⟨#[]⟩, .int .i64 0, .int .i64 0, .int .u64 0, .int .u64 0, .int .i64 0, .int .u64 0, .int .i64 0, .int .i64 0, .int .i64 0, .int .i64 0] rfl rfl _ _ HX1.out call_size (by simp [hcs]) (by simp [Value.oneCell']) ?_))
  simp [bodyPostS, results, Tryd.results67, faultV]
  exact ⟨HX3.out, HK3.out, HM3.out⟩

set_option maxRecDepth 20000 in
set_option maxHeartbeats 600000 in
theorem catchClIdle (x k : Nat) (w : World) :
    CallsD Tryd.prog 67 #[.pointer (some ⟨x, 0, none⟩), .pointer (some ⟨k, 0, none⟩)] .returning w fun e u' w' => e = .returned (.tuple #[]) ∧ u' = .returning ∧ w' = w := by
  refine callsD_of_wpS Tryd.func67 rfl fun c₀ cs hu => ?_
  apply wpS_seq
  apply wpS_region
  simp [wpOpsS, go_sem, recoverD, hu, Tryd.ntmps67, Exit.thenS]
  rw [show (#[Value.pointer (some ⟨x, 0, none⟩), Value.pointer (some ⟨k, 0, none⟩)] ++ ((Array.replicate 16 undef).setIfInBounds 4 Value.nilIface).setIfInBounds 0 Value.nilIface : Array Value) = #[.pointer (some ⟨x, 0, none⟩), .pointer (some ⟨k, 0, none⟩), .nilIface, undef, undef, undef, .nilIface, undef, undef, undef, undef, undef, undef, undef, undef, undef, undef, undef] from rfl]
  refine wpS_of_wp ?_
  go_wp2
  cases c₀
  simp_all [bodyPostS, results, Tryd.results67]

def readCl (l : List UInt8) : Option Cl := whole rdCall l
/-- What read answers. -/
def ReadClE (s : List UInt8) (w : World) (e : Ending) (w' : World) : Prop :=
  e = .returned (.tuple #[.agg (match readCl s with | some x => (Cl.cells x).toArray | none => #[.int .i64 0, .bool false, .bool false, .int .u64 0, .int .u64 0, .int .i64 0, .string ⟨#[]⟩, .int .i64 0, .int .i64 0, .int .u64 0, .string ⟨#[]⟩, .int .i64 0, .int .i64 0, .int .u64 0, .int .u64 0, .int .i64 0, .int .u64 0, .int .i64 0, .int .i64 0, .int .i64 0, .int .i64 0]), .bool (readCl s).isSome]) ∧ Below w.heap.size w w'

theorem readClE_no {s : List UInt8} {w w' : World} (h : readCl s = none) (hb : Below w.heap.size w w') : ReadClE s w (.returned (.tuple #[.agg #[.int .i64 0, .bool false, .bool false, .int .u64 0, .int .u64 0, .int .i64 0, .string ⟨#[]⟩, .int .i64 0, .int .i64 0, .int .u64 0, .string ⟨#[]⟩, .int .i64 0, .int .i64 0, .int .u64 0, .int .u64 0, .int .i64 0, .int .u64 0, .int .i64 0, .int .i64 0, .int .i64 0, .int .i64 0], .bool false])) w' := by
  unfold ReadClE; rw [h]; exact ⟨rfl, hb⟩
theorem readClE_yes {s : List UInt8} {w w' : World} {x : Cl} {cs : Array Value} (h : readCl s = some x) (hv : cs = (Cl.cells x).toArray) (hb : Below w.heap.size w w') : ReadClE s w (.returned (.tuple #[.agg cs, .bool true])) w' := by
  subst hv; unfold ReadClE; rw [h]; exact ⟨rfl, hb⟩

set_option maxRecDepth 20000 in
set_option maxHeartbeats 4000000 in
theorem scrReadCl (s : List UInt8) (w : World) (hs : s.length < 4294967281) (hE : EnvR w.heap.size w) :
    Calls Tryd.prog 51 #[.string ⟨s.toArray⟩, .func (.func 52) #[] #[]] w (ReadClE s w) := by
  have hmf : ∀ (fn : Fn) (first cap : Array Value) (w : World), (Instr.makeFunc fn first cap).run Tryd.prog w = .ok (.func fn first cap) w := fun _ _ _ _ => rfl
  obtain ⟨L, hL⟩ : ∃ L, L = parts 32 s := ⟨_, rfl⟩
  have HL := Lib.hid hL
  have hLs : ∀ x ∈ L, x.length ≤ 140737488351232 := fun x hx => by have := parts_len 32 s x (by rw [← hL]; exact hx); omega
  have hLn : L.length ≤ 4294967281 := by rw [hL, parts_count]; have := List.count_le_length (a := (32 : UInt8)) (l := s); omega
  have CS := Lib.hid (fun W hW => splitC s w.heap.size W hs hW)
  rw [← hL] at CS
  have b2 : Below w.heap.size w ((w.alloc (.cells #[.int .i64 0, .bool false, .bool false, .int .u64 0, .int .u64 0, .int .i64 0, .string ⟨#[]⟩, .int .i64 0, .int .i64 0, .int .u64 0, .string ⟨#[]⟩, .int .i64 0, .int .i64 0, .int .u64 0, .int .u64 0, .int .i64 0, .int .u64 0, .int .i64 0, .int .i64 0, .int .i64 0, .int .i64 0] 48)).alloc (.cells #[.bool false] 4)) := ((Below.refl _ _).alloc (Nat.le_refl _) _).alloc (by simp) _
  have HX2 := Lib.hid (show Blk ((w.alloc (.cells #[.int .i64 0, .bool false, .bool false, .int .u64 0, .int .u64 0, .int .i64 0, .string ⟨#[]⟩, .int .i64 0, .int .i64 0, .int .u64 0, .string ⟨#[]⟩, .int .i64 0, .int .i64 0, .int .u64 0, .int .u64 0, .int .i64 0, .int .u64 0, .int .i64 0, .int .i64 0, .int .i64 0, .int .i64 0] 48)).alloc (.cells #[.bool false] 4)) w.heap.size 48 #[.int .i64 0, .bool false, .bool false, .int .u64 0, .int .u64 0, .int .i64 0, .string ⟨#[]⟩, .int .i64 0, .int .i64 0, .int .u64 0, .string ⟨#[]⟩, .int .i64 0, .int .i64 0, .int .u64 0, .int .u64 0, .int .i64 0, .int .u64 0, .int .i64 0, .int .i64 0, .int .i64 0, .int .i64 0] from (Blk.new w _ _).kept ((Below.refl _ _).alloc (Nat.le_refl _) _))
  have HK2 := Lib.hid (show Blk ((w.alloc (.cells #[.int .i64 0, .bool false, .bool false, .int .u64 0, .int .u64 0, .int .i64 0, .string ⟨#[]⟩, .int .i64 0, .int .i64 0, .int .u64 0, .string ⟨#[]⟩, .int .i64 0, .int .i64 0, .int .u64 0, .int .u64 0, .int .i64 0, .int .u64 0, .int .i64 0, .int .i64 0, .int .i64 0, .int .i64 0] 48)).alloc (.cells #[.bool false] 4)) (w.heap.size + 1) 4 #[.bool false] from by have := Blk.new (w.alloc (.cells #[.int .i64 0, .bool false, .bool false, .int .u64 0, .int .u64 0, .int .i64 0, .string ⟨#[]⟩, .int .i64 0, .int .i64 0, .int .u64 0, .string ⟨#[]⟩, .int .i64 0, .int .i64 0, .int .u64 0, .int .u64 0, .int .i64 0, .int .u64 0, .int .i64 0, .int .i64 0, .int .i64 0, .int .i64 0] 48)) #[.bool false] 4; simpa using this)
  obtain ⟨w2, hw2⟩ : ∃ w2, w2 = ((w.alloc (.cells #[.int .i64 0, .bool false, .bool false, .int .u64 0, .int .u64 0, .int .i64 0, .string ⟨#[]⟩, .int .i64 0, .int .i64 0, .int .u64 0, .string ⟨#[]⟩, .int .i64 0, .int .i64 0, .int .u64 0, .int .u64 0, .int .i64 0, .int .u64 0, .int .i64 0, .int .i64 0, .int .i64 0, .int .i64 0] 48)).alloc (.cells #[.bool false] 4)) := ⟨_, rfl⟩
  have hz2 : w2.heap.size = w.heap.size + 1 + 1 := by rw [hw2]; simp
  rw [← hw2] at HX2 HK2 b2
  have HE2 := Lib.hid (hE.below b2)
  have hb3 : Below w2.heap.size w2 ((w2.alloc (.cells (svals L).toArray 9)).alloc (.cells #[.slice (some ⟨w2.heap.size, 0, none⟩) L.length L.length] Tr)) := ((Below.refl _ _).alloc (Nat.le_refl _) _).alloc (by simp) _
  have hrd : RdAt ((w2.alloc (.cells (svals L).toArray 9)).alloc (.cells #[.slice (some ⟨w2.heap.size, 0, none⟩) L.length L.length] Tr)) (w2.heap.size + 1) (w2.heap.size + 1) L := by
    refine ⟨some ⟨w2.heap.size, 0, none⟩, L.length, ?_, Nat.le_refl _, by omega, ?_, hLs, fun g hg => by simp at hg; omega⟩
    · have := Blk.new (w2.alloc (.cells (svals L).toArray 9)) #[.slice (some ⟨w2.heap.size, 0, none⟩) L.length L.length] Tr
      simpa using this
    · exact (RV.lit w2 (svals L) 9 (0, 0)).below ((Below.refl _ _).alloc (Nat.le_refl _) _)
  have HRD := Lib.hid hrd
  have B3 := Lib.hid (b2.trans (hb3.mono (by omega)))
  have HX3 := Lib.hid (HX2.out.kept hb3)
  have HK3 := Lib.hid (HK2.out.kept hb3)
  have HE3 := Lib.hid (HE2.out.below (hb3.mono (by omega)))
  obtain ⟨w3, hw3⟩ : ∃ w3, w3 = ((w2.alloc (.cells (svals L).toArray 9)).alloc (.cells #[.slice (some ⟨w2.heap.size, 0, none⟩) L.length L.length] Tr)) := ⟨_, rfl⟩
  have hz3 : w3.heap.size = w2.heap.size + 2 := by rw [hw3]; simp
  rw [← hw3] at HX3 HK3 HE3 B3 HRD
  have CW : Calls Tryd.prog 52 #[.pointer (some ⟨w2.heap.size + 1, 0, none⟩)] w3 (fun e w' => Below w.heap.size w w' ∧ Blk w' w.heap.size 48 #[.int .i64 0, .bool false, .bool false, .int .u64 0, .int .u64 0, .int .i64 0, .string ⟨#[]⟩, .int .i64 0, .int .i64 0, .int .u64 0, .string ⟨#[]⟩, .int .i64 0, .int .i64 0, .int .u64 0, .int .u64 0, .int .i64 0, .int .u64 0, .int .i64 0, .int .i64 0, .int .i64 0, .int .i64 0] ∧ Blk w' (w.heap.size + 1) 4 #[.bool false] ∧
      ((∃ x r, rdCall L = some (x, r) ∧ e = .returned (.agg (Cl.cells x).toArray) ∧ RdAt w' (w2.heap.size + 1) (w2.heap.size + 1) r) ∨ (rdCall L = none ∧ e = .panicked [{ v := faultV, recovered := false }]))) := by
    refine (whatCall w.heap.size (w2.heap.size + 1) (w2.heap.size + 1) L w3 HRD.out HE3.out (by omega) (by omega) (by omega)).mono ?_
    intro e w' h
    have m : Mods (· = w2.heap.size + 1) w3 w' := by rcases h with ⟨_, _, _, _, _, m⟩ | ⟨_, _, m⟩ <;> exact m
    refine ⟨B3.out.trans (m.low (by omega) (by omega)), HX3.out.mods m (by omega), HK3.out.mods m (by omega), ?_⟩
    rcases h with ⟨x, r, h1, h2, h3, _⟩ | ⟨h1, h2, _⟩
    · exact .inl ⟨x, r, h1, h2, h3⟩
    · exact .inr ⟨h1, h2⟩
  rw [hw3, hz2, hw2] at CW
  rw [hw2] at HE2
  have HCW := Lib.hid CW
  clear hL hLs hLn hs hE b2 hb3 hrd HE3 CW hw3 HRD B3 HX3 HK3 HX2 HK2 hz3
  go_enter_defers Tryd.func51, Tryd.ntmps51
  go_wp2_with (go_at_call 63; refine (CS.out _ HE2.out).mono ?_)
  rintro e w' ⟨rfl, rfl⟩
  clear CS HE2
  go_wp2_with fail
  refine HCW.out.mono ?_
  rintro e w5 ⟨b5, x5, k5, ⟨x, r, hx, rfl, hr⟩ | ⟨hx, rfl⟩⟩
  · have hcs : ∃ cs, cs = x.cells.toArray := ⟨_, rfl⟩
    obtain ⟨cs, hcs⟩ := hcs
    have HCS := Lib.hid hcs
    have hz : cs.size = 21 := by rw [hcs]; exact x.cells_size
    have h1c : cs.all (·.oneCell') = true := by rw [hcs]; exact x.cells_one
    have hsz : (Tryd.prog.info? 48).map (·.size) = some cs.size := by rw [hz]; exact call_size
    rw [← hcs]
    clear hcs
    obtain ⟨A, c, hbr, hrc, hrm, _⟩ := hr
    have hxb : w.heap.size ≠ w.heap.size + 1 + 1 + 1 := by omega
    have hbr' := hbr.setRow_other (k := w.heap.size) cs hxb.symm
    have HRW := Lib.hid (show Blk (w5.setRow w.heap.size cs) (w.heap.size + 1 + 1 + 1) Tr #[.slice A r.length c] from hbr')
    have HX6 := Lib.hid (x5.setRow cs)
    have HK6 := Lib.hid (k5.setRow_other (k := w.heap.size) cs (by omega))
    have B6 : Hid (Below w.heap.size w (w5.setRow w.heap.size cs)) := Lib.hid ⟨b5.os, b5.tape, b5.output, by simpa using b5.size, fun i hi => (Go.setRow_other _ _ _ _ (by omega)).trans (b5.block i hi)⟩
    have HX5 := Lib.hid x5
    have hre := HRW.out.cell 0 rfl
    have hrm' : r.length ≤ 9223372036854775807 := by omega
    have HXR : Hid (rdCall L = some (x, r)) := Lib.hid hx
    clear hbr hbr' hxb x5 k5 b5 HCW hx hz2 hw2
    by_cases hr0 : r = []
    · have HY : Hid (readCl s = some x) := Lib.hid (by unfold readCl whole; rw [← HL.out, HXR.out, hr0])
      have hd : ((r.length : Int) == 0) = true := by rw [hr0]; rfl
      have HXZ := Lib.hid (HX6.out.setRow cs)
      have HKZ := Lib.hid (HK6.out.setRow_other (k := w.heap.size) cs (by omega))
      have kz := HKZ.out.cell 0 rfl
      have kf := HKZ.out.free 0
      have HXW := Lib.hid (HXZ.out.setCell_other (a := ⟨w.heap.size + 1, 0, none⟩) (.bool true) (show w.heap.size ≠ w.heap.size + 1 by omega))
      have HKW := Lib.hid (HKZ.out.setCell 0 (.bool true))
      have BW : Hid (Below w.heap.size w (((w5.setRow w.heap.size cs).setRow w.heap.size cs).setCell ⟨w.heap.size + 1, 0, none⟩ (.bool true))) := Lib.hid (by
        have b := B6.out
        have b' : Below w.heap.size w ((w5.setRow w.heap.size cs).setRow w.heap.size cs) := ⟨b.os, b.tape, b.output, by simpa using b.size, fun i hi => (Go.setRow_other _ _ _ _ (by omega)).trans (b.block i hi)⟩
        exact b'.setCell (p := ⟨w.heap.size + 1, 0, none⟩) (by simp) _)
      clear hr0 HXR
      go_wp2_with (first
        | (refine wpList_store_row rfl 48 (.tmp 4) (.tmp 14) rfl w.heap.size cs rfl rfl _ _ HX5.out hsz (by simp [hz]) h1c ?_)
        | (refine wpList_store_row rfl 48 (.tmp 4) (.tmp 23) rfl w.heap.size cs rfl rfl _ _ HX6.out hsz rfl h1c ?_)
        | (refine wpList_load_row rfl 48 (.tmp 4) rfl w.heap.size rfl 48 cs (0, 0) _ HX6.out Tryd.underlying48 rfl hsz ?_)
        | (go_at_call 41; with_reducible refine (needT _ _).mono ?_; rintro e w6 ⟨rfl, rfl⟩))
      refine leaves_cons (f := 67) (args := #[.pointer (some ⟨w.heap.size, 0, none⟩), .pointer (some ⟨w.heap.size + 1, 0, none⟩)]) (by simp) (by simp [go_sem]) ?_
      refine (catchClIdle _ _ _).mono ?_
      rintro e u' w7 ⟨rfl, rfl, rfl⟩
      have kq := HKW.out.cell 0 rfl
      refine Exists.intro (.tuple #[.agg cs, .bool true]) (And.intro (results_two rfl _ _ w.heap.size 48 cs (0, 0) _ ⟨w.heap.size + 1, 0, none⟩ _ rfl rfl HXW.out Tryd.underlying48 rfl hsz (by simp [loadVar, go_sem, kq])) ?_)
      exact readClE_yes HY.out HCS.out BW.out
    · have HN : Hid (readCl s = none) := Lib.hid (by
        unfold readCl whole
        rw [← HL.out, HXR.out]
        cases r with
        | nil => exact absurd rfl hr0
        | cons _ _ => rfl)
      have hd : ((r.length : Int) == 0) = false := by
        have : 0 < r.length := List.length_pos_iff.2 hr0
        rw [beq_eq_false_iff_ne]
        omega
      clear hr0 HXR
      go_wp2_with (first
        | (refine wpList_store_row rfl 48 (.tmp 4) (.tmp 14) rfl w.heap.size cs rfl rfl _ _ HX5.out hsz (by simp [hz]) h1c ?_)
        | (go_at_call 41; with_reducible refine (needF _ _).mono ?_; rintro e w6 ⟨rfl, rfl⟩))
      refine leaves_cons (f := 67) (args := #[.pointer (some ⟨w.heap.size, 0, none⟩), .pointer (some ⟨w.heap.size + 1, 0, none⟩)]) (by simp) (by simp [go_sem]) ?_
      refine (catchClYes w.heap.size (w.heap.size + 1) [] _ (by omega) _ hz _ HX6.out HK6.out).mono ?_
      rintro e u' w7 ⟨rfl, rfl, x6, k6, m6⟩
      have z0 := k6.cell 0 rfl
      refine Exists.intro (.tuple #[.agg #[.int .i64 0, .bool false, .bool false, .int .u64 0, .int .u64 0, .int .i64 0, .string ⟨#[]⟩, .int .i64 0, .int .i64 0, .int .u64 0, .string ⟨#[]⟩, .int .i64 0, .int .i64 0, .int .u64 0, .int .u64 0, .int .i64 0, .int .u64 0, .int .i64 0, .int .i64 0, .int .i64 0, .int .i64 0], .bool false]) (And.intro (results_two rfl _ _ w.heap.size 48 #[.int .i64 0, .bool false, .bool false, .int .u64 0, .int .u64 0, .int .i64 0, .string ⟨#[]⟩, .int .i64 0, .int .i64 0, .int .u64 0, .string ⟨#[]⟩, .int .i64 0, .int .i64 0, .int .u64 0, .int .u64 0, .int .i64 0, .int .u64 0, .int .i64 0, .int .i64 0, .int .i64 0, .int .i64 0] (0, 0) _ ⟨w.heap.size + 1, 0, none⟩ _ rfl rfl x6 Tryd.underlying48 rfl call_size (by simp [loadVar, go_sem, z0])) ?_)
      exact readClE_no HN.out (B6.out.trans (Mods.old (Below.refl _ _) m6 B6.out.size (fun i _ h => by rcases h with rfl | rfl <;> omega)))
  · have HN : Hid (readCl s = none) := Lib.hid (by unfold readCl whole; rw [← HL.out, hx])
    clear hz2 hw2
    refine leaves_cons (f := 67) (args := #[.pointer (some ⟨w.heap.size, 0, none⟩), .pointer (some ⟨w.heap.size + 1, 0, none⟩)]) (by simp) (by simp [go_sem]) ?_
    refine (catchClYes w.heap.size (w.heap.size + 1) [] w5 (by omega) _ rfl _ x5 k5).mono ?_
    rintro e u' w6 ⟨rfl, rfl, x6, k6, m6⟩
    have z0 := k6.cell 0 rfl
    refine Exists.intro (.tuple #[.agg #[.int .i64 0, .bool false, .bool false, .int .u64 0, .int .u64 0, .int .i64 0, .string ⟨#[]⟩, .int .i64 0, .int .i64 0, .int .u64 0, .string ⟨#[]⟩, .int .i64 0, .int .i64 0, .int .u64 0, .int .u64 0, .int .i64 0, .int .u64 0, .int .i64 0, .int .i64 0, .int .i64 0, .int .i64 0], .bool false]) (And.intro (results_two rfl _ _ w.heap.size 48 #[.int .i64 0, .bool false, .bool false, .int .u64 0, .int .u64 0, .int .i64 0, .string ⟨#[]⟩, .int .i64 0, .int .i64 0, .int .u64 0, .string ⟨#[]⟩, .int .i64 0, .int .i64 0, .int .u64 0, .int .u64 0, .int .i64 0, .int .u64 0, .int .i64 0, .int .i64 0, .int .i64 0, .int .i64 0] (0, 0) _ ⟨w.heap.size + 1, 0, none⟩ _ rfl rfl x6 Tryd.underlying48 rfl call_size (by simp [loadVar, go_sem, z0])) ?_)
    exact readClE_no HN.out (b5.trans (Mods.old (Below.refl _ _) m6 b5.size (fun i _ h => by rcases h with rfl | rfl <;> omega)))
end Go.Proofs.YtcinohmhhglpjaaDoor
