/- Contracts of package script: read[scupper/api.Act]. -/
import Derived.Test.YtcinohmhhglpjaaDoorScrWa
namespace Go.Proofs.YtcinohmhhglpjaaDoor
open Go.RowKit

set_option maxRecDepth 20000 in
set_option maxHeartbeats 600000 in
theorem catchActYes (x k : Nat) (older : List PanicEntry) (w : World) (hxk : x ≠ k) (cs : Array Value) (hcs : cs.size = 13) (v : Value) (hx : Blk w x 35 cs) (hk : Blk w k 4 #[v]) :
    CallsD Tryd.prog 62 #[.pointer (some ⟨x, 0, none⟩), .pointer (some ⟨k, 0, none⟩)] (.panicking ({ v := faultV, recovered := false } :: older)) w fun e u' w' =>
      e = .returned (.tuple #[]) ∧ u' = .panicking ({ v := faultV, recovered := true } :: older) ∧ Blk w' x 35 #[.int .i64 0, .int .i64 0, .int .i64 0, .int .i64 0, .int .u64 0, .int .u64 0, .int .u64 0, .int .u64 0, .int .i64 0, .string ⟨#[]⟩, .int .i64 0, .int .i64 0, .int .u64 0] ∧ Blk w' k 4 #[.bool false] ∧ Mods (fun i => i = x ∨ i = k) w w' := by
  have hta : ∀ W, (Instr.typeAssert (.iface 114 (.agg #[])) 20 114 true).run Tryd.prog W = .ok (.tuple #[.agg #[], .bool true]) W := fun W => by kernel_rfl
  refine callsD_of_wpS Tryd.func62 rfl fun c₀ cs hu => ?_
  apply wpS_seq
  apply wpS_region
  simp [wpOpsS, go_sem, recoverD, hu, Tryd.ntmps62, Exit.thenS, faultV]
  rw [show (#[Value.pointer (some ⟨x, 0, none⟩), Value.pointer (some ⟨k, 0, none⟩)] ++ ((Array.replicate 16 undef).setIfInBounds 4 (Value.iface 114 (.agg #[]))).setIfInBounds 0 (Value.iface 114 (.agg #[])) : Array Value) = #[.pointer (some ⟨x, 0, none⟩), .pointer (some ⟨k, 0, none⟩), .iface 114 (.agg #[]), undef, undef, undef, .iface 114 (.agg #[]), undef, undef, undef, undef, undef, undef, undef, undef, undef, undef, undef] from rfl]
  refine wpS_of_wp ?_
  have hb1 : Below w.heap.size w ((w.alloc (.cells #[] 114)).alloc (.cells #[.int .i64 0, .int .i64 0, .int .i64 0, .int .i64 0, .int .u64 0, .int .u64 0, .int .u64 0, .int .u64 0, .int .i64 0, .string ⟨#[]⟩, .int .i64 0, .int .i64 0, .int .u64 0] 35)) := ((Below.refl _ _).alloc (Nat.le_refl _) _).alloc (by simp) _
  have HX1 := Lib.hid (hx.kept hb1)
  have HK1 := Lib.hid (hk.kept hb1)
  have HK2 : Hid (Blk (((w.alloc (.cells #[] 114)).alloc (.cells #[.int .i64 0, .int .i64 0, .int .i64 0, .int .i64 0, .int .u64 0, .int .u64 0, .int .u64 0, .int .u64 0, .int .i64 0, .string ⟨#[]⟩, .int .i64 0, .int .i64 0, .int .u64 0] 35)).setRow x #[.int .i64 0, .int .i64 0, .int .i64 0, .int .i64 0, .int .u64 0, .int .u64 0, .int .u64 0, .int .u64 0, .int .i64 0, .string ⟨#[]⟩, .int .i64 0, .int .i64 0, .int .u64 0]) k 4 #[v]) := Lib.hid (HK1.out.setRow_other _ hxk.symm)
  have HX2 : Hid (Blk (((w.alloc (.cells #[] 114)).alloc (.cells #[.int .i64 0, .int .i64 0, .int .i64 0, .int .i64 0, .int .u64 0, .int .u64 0, .int .u64 0, .int .u64 0, .int .i64 0, .string ⟨#[]⟩, .int .i64 0, .int .i64 0, .int .u64 0] 35)).setRow x #[.int .i64 0, .int .i64 0, .int .i64 0, .int .i64 0, .int .u64 0, .int .u64 0, .int .u64 0, .int .u64 0, .int .i64 0, .string ⟨#[]⟩, .int .i64 0, .int .i64 0, .int .u64 0]) x 35 #[.int .i64 0, .int .i64 0, .int .i64 0, .int .i64 0, .int .u64 0, .int .u64 0, .int .u64 0, .int .u64 0, .int .i64 0, .string ⟨#[]⟩, .int .i64 0, .int .i64 0, .int .u64 0]) := Lib.hid (HX1.out.setRow _)
  have k0 := HK2.out.cell 0 rfl
  have kf := HK2.out.free 0
  have HX3 : Hid (Blk ((((w.alloc (.cells #[] 114)).alloc (.cells #[.int .i64 0, .int .i64 0, .int .i64 0, .int .i64 0, .int .u64 0, .int .u64 0, .int .u64 0, .int .u64 0, .int .i64 0, .string ⟨#[]⟩, .int .i64 0, .int .i64 0, .int .u64 0] 35)).setRow x #[.int .i64 0, .int .i64 0, .int .i64 0, .int .i64 0, .int .u64 0, .int .u64 0, .int .u64 0, .int .u64 0, .int .i64 0, .string ⟨#[]⟩, .int .i64 0, .int .i64 0, .int .u64 0]).setCell ⟨k, 0, none⟩ (.bool false)) x 35 #[.int .i64 0, .int .i64 0, .int .i64 0, .int .i64 0, .int .u64 0, .int .u64 0, .int .u64 0, .int .u64 0, .int .i64 0, .string ⟨#[]⟩, .int .i64 0, .int .i64 0, .int .u64 0]) := Lib.hid (HX2.out.setCell_other _ hxk)
  have HK3 : Hid (Blk ((((w.alloc (.cells #[] 114)).alloc (.cells #[.int .i64 0, .int .i64 0, .int .i64 0, .int .i64 0, .int .u64 0, .int .u64 0, .int .u64 0, .int .u64 0, .int .i64 0, .string ⟨#[]⟩, .int .i64 0, .int .i64 0, .int .u64 0] 35)).setRow x #[.int .i64 0, .int .i64 0, .int .i64 0, .int .i64 0, .int .u64 0, .int .u64 0, .int .u64 0, .int .u64 0, .int .i64 0, .string ⟨#[]⟩, .int .i64 0, .int .i64 0, .int .u64 0]).setCell ⟨k, 0, none⟩ (.bool false)) k 4 #[.bool false]) := Lib.hid (HK2.out.setCell 0 _)
  have HM3 : Hid (Mods (fun i => i = x ∨ i = k) w ((((w.alloc (.cells #[] 114)).alloc (.cells #[.int .i64 0, .int .i64 0, .int .i64 0, .int .i64 0, .int .u64 0, .int .u64 0, .int .u64 0, .int .u64 0, .int .i64 0, .string ⟨#[]⟩, .int .i64 0, .int .i64 0, .int .u64 0] 35)).setRow x #[.int .i64 0, .int .i64 0, .int .i64 0, .int .i64 0, .int .u64 0, .int .u64 0, .int .u64 0, .int .u64 0, .int .i64 0, .string ⟨#[]⟩, .int .i64 0, .int .i64 0, .int .u64 0]).setCell ⟨k, 0, none⟩ (.bool false))) := Lib.hid (((Mods.of_below hb1).setRow x (.inl (.inl rfl)) _).setCell _ (.inl (.inr rfl)) _)
  go_wp2_with (refine wpList_store_row rfl 35 (.tmp 0) (.tmp 17) rfl x #[.int .i64 0, .int .i64 0, .int .i64 0, .int .i64 0, .int .u64 0, .int .u64 0, .int .u64 0, .int .u64 0, .int .i64 0, .string ⟨#[]⟩, .int .i64 0, .int .i64 0, .int .u64 0] rfl rfl _ _ HX1.out act_size' (by simp [hcs]) (by simp [Value.oneCell']) ?_)
  simp [bodyPostS, results, Tryd.results62, faultV]
  exact ⟨HX3.out, HK3.out, HM3.out⟩

set_option maxRecDepth 20000 in
set_option maxHeartbeats 600000 in
theorem catchActIdle (x k : Nat) (w : World) :
    CallsD Tryd.prog 62 #[.pointer (some ⟨x, 0, none⟩), .pointer (some ⟨k, 0, none⟩)] .returning w fun e u' w' => e = .returned (.tuple #[]) ∧ u' = .returning ∧ w' = w := by
  refine callsD_of_wpS Tryd.func62 rfl fun c₀ cs hu => ?_
  apply wpS_seq
  apply wpS_region
  simp [wpOpsS, go_sem, recoverD, hu, Tryd.ntmps62, Exit.thenS]
  rw [show (#[Value.pointer (some ⟨x, 0, none⟩), Value.pointer (some ⟨k, 0, none⟩)] ++ ((Array.replicate 16 undef).setIfInBounds 4 Value.nilIface).setIfInBounds 0 Value.nilIface : Array Value) = #[.pointer (some ⟨x, 0, none⟩), .pointer (some ⟨k, 0, none⟩), .nilIface, undef, undef, undef, .nilIface, undef, undef, undef, undef, undef, undef, undef, undef, undef, undef, undef] from rfl]
  refine wpS_of_wp ?_
  go_wp2
  cases c₀
  simp_all [bodyPostS, results, Tryd.results62]

/-- What read answers. -/
def ReadActE (s : List UInt8) (w : World) (e : Ending) (w' : World) : Prop :=
  e = .returned (.tuple #[.agg (match readAct s with | some x => (Ap.cells x).toArray | none => #[.int .i64 0, .int .i64 0, .int .i64 0, .int .i64 0, .int .u64 0, .int .u64 0, .int .u64 0, .int .u64 0, .int .i64 0, .string ⟨#[]⟩, .int .i64 0, .int .i64 0, .int .u64 0]), .bool (readAct s).isSome]) ∧ Below w.heap.size w w'

theorem readActE_no {s : List UInt8} {w w' : World} (h : readAct s = none) (hb : Below w.heap.size w w') : ReadActE s w (.returned (.tuple #[.agg #[.int .i64 0, .int .i64 0, .int .i64 0, .int .i64 0, .int .u64 0, .int .u64 0, .int .u64 0, .int .u64 0, .int .i64 0, .string ⟨#[]⟩, .int .i64 0, .int .i64 0, .int .u64 0], .bool false])) w' := by
  unfold ReadActE; rw [h]; exact ⟨rfl, hb⟩
theorem readActE_yes {s : List UInt8} {w w' : World} {x : Ap} {cs : Array Value} (h : readAct s = some x) (hv : cs = (Ap.cells x).toArray) (hb : Below w.heap.size w w') : ReadActE s w (.returned (.tuple #[.agg cs, .bool true])) w' := by
  subst hv; unfold ReadActE; rw [h]; exact ⟨rfl, hb⟩

set_option maxRecDepth 20000 in
set_option maxHeartbeats 4000000 in
theorem scrReadAct (s : List UInt8) (w : World) (hs : s.length < 4294967281) (hE : EnvR w.heap.size w) :
    Calls Tryd.prog 37 #[.string ⟨s.toArray⟩, .func (.func 38) #[] #[]] w (ReadActE s w) := by
  have hmf : ∀ (fn : Fn) (first cap : Array Value) (w : World), (Instr.makeFunc fn first cap).run Tryd.prog w = .ok (.func fn first cap) w := fun _ _ _ _ => rfl
  obtain ⟨L, hL⟩ : ∃ L, L = parts 32 s := ⟨_, rfl⟩
  have HL := Lib.hid hL
  have hLs : ∀ x ∈ L, x.length ≤ 140737488351232 := fun x hx => by have := parts_len 32 s x (by rw [← hL]; exact hx); omega
  have hLn : L.length ≤ 4294967281 := by rw [hL, parts_count]; have := List.count_le_length (a := (32 : UInt8)) (l := s); omega
  have CS := Lib.hid (fun W hW => splitC s w.heap.size W hs hW)
  rw [← hL] at CS
  have b2 : Below w.heap.size w ((w.alloc (.cells #[.int .i64 0, .int .i64 0, .int .i64 0, .int .i64 0, .int .u64 0, .int .u64 0, .int .u64 0, .int .u64 0, .int .i64 0, .string ⟨#[]⟩, .int .i64 0, .int .i64 0, .int .u64 0] 35)).alloc (.cells #[.bool false] 4)) := ((Below.refl _ _).alloc (Nat.le_refl _) _).alloc (by simp) _
  have HX2 := Lib.hid (show Blk ((w.alloc (.cells #[.int .i64 0, .int .i64 0, .int .i64 0, .int .i64 0, .int .u64 0, .int .u64 0, .int .u64 0, .int .u64 0, .int .i64 0, .string ⟨#[]⟩, .int .i64 0, .int .i64 0, .int .u64 0] 35)).alloc (.cells #[.bool false] 4)) w.heap.size 35 #[.int .i64 0, .int .i64 0, .int .i64 0, .int .i64 0, .int .u64 0, .int .u64 0, .int .u64 0, .int .u64 0, .int .i64 0, .string ⟨#[]⟩, .int .i64 0, .int .i64 0, .int .u64 0] from (Blk.new w _ _).kept ((Below.refl _ _).alloc (Nat.le_refl _) _))
  have HK2 := Lib.hid (show Blk ((w.alloc (.cells #[.int .i64 0, .int .i64 0, .int .i64 0, .int .i64 0, .int .u64 0, .int .u64 0, .int .u64 0, .int .u64 0, .int .i64 0, .string ⟨#[]⟩, .int .i64 0, .int .i64 0, .int .u64 0] 35)).alloc (.cells #[.bool false] 4)) (w.heap.size + 1) 4 #[.bool false] from by have := Blk.new (w.alloc (.cells #[.int .i64 0, .int .i64 0, .int .i64 0, .int .i64 0, .int .u64 0, .int .u64 0, .int .u64 0, .int .u64 0, .int .i64 0, .string ⟨#[]⟩, .int .i64 0, .int .i64 0, .int .u64 0] 35)) #[.bool false] 4; simpa using this)
  obtain ⟨w2, hw2⟩ : ∃ w2, w2 = ((w.alloc (.cells #[.int .i64 0, .int .i64 0, .int .i64 0, .int .i64 0, .int .u64 0, .int .u64 0, .int .u64 0, .int .u64 0, .int .i64 0, .string ⟨#[]⟩, .int .i64 0, .int .i64 0, .int .u64 0] 35)).alloc (.cells #[.bool false] 4)) := ⟨_, rfl⟩
  have hz2 : w2.heap.size = w.heap.size + 1 + 1 := by rw [hw2]; simp
  rw [← hw2] at HX2 HK2 b2
  have HE2 := Lib.hid (hE.below b2)
  have hb3 : Below w2.heap.size w2 ((w2.alloc (.cells (svals L).toArray 9)).alloc (.cells #[.slice (some ⟨w2.heap.size, 0, none⟩) L.length L.length] Tr)) := ((Below.refl _ _).alloc (Nat.le_refl _) _).alloc (by simp) _
  have hrd : RdAt ((w2.alloc (.cells (svals L).toArray 9)).alloc (.cells #[.slice (some ⟨w2.heap.size, 0, none⟩) L.length L.length] Tr)) (w2.heap.size + 1) (w2.heap.size + 1) L := by
    refine ⟨some ⟨w2.heap.size, 0, none⟩, L.length, ?_, Nat.le_refl _, by omega, ?_, hLs, fun g hg => by simp at hg; omega⟩
    · have := Blk.new (w2.alloc (.cells (svals L).toArray 9)) #[.slice (some ⟨w2.heap.size, 0, none⟩) L.length L.length] Tr
      simpa using this
    · exact (RV.lit w2 (svals L) 9 (0, 0)).below ((Below.refl _ _).alloc (Nat.le_refl _) _)
  have HRD := Lib.hid hrd
  have B3 := Lib.hid (b2.trans (hb3.mono (by omega)))
  have HX3 := Lib.hid (HX2.out.kept hb3)
  have HK3 := Lib.hid (HK2.out.kept hb3)
  have HE3 := Lib.hid (HE2.out.below (hb3.mono (by omega)))
  obtain ⟨w3, hw3⟩ : ∃ w3, w3 = ((w2.alloc (.cells (svals L).toArray 9)).alloc (.cells #[.slice (some ⟨w2.heap.size, 0, none⟩) L.length L.length] Tr)) := ⟨_, rfl⟩
  have hz3 : w3.heap.size = w2.heap.size + 2 := by rw [hw3]; simp
  rw [← hw3] at HX3 HK3 HE3 B3 HRD
  have CW : Calls Tryd.prog 38 #[.pointer (some ⟨w2.heap.size + 1, 0, none⟩)] w3 (fun e w' => Below w.heap.size w w' ∧ Blk w' w.heap.size 35 #[.int .i64 0, .int .i64 0, .int .i64 0, .int .i64 0, .int .u64 0, .int .u64 0, .int .u64 0, .int .u64 0, .int .i64 0, .string ⟨#[]⟩, .int .i64 0, .int .i64 0, .int .u64 0] ∧ Blk w' (w.heap.size + 1) 4 #[.bool false] ∧
      ((∃ x r, rdAct L = some (x, r) ∧ e = .returned (.agg (Ap.cells x).toArray) ∧ RdAt w' (w2.heap.size + 1) (w2.heap.size + 1) r) ∨ (rdAct L = none ∧ e = .panicked [{ v := faultV, recovered := false }]))) := by
    refine (whatAct w.heap.size (w2.heap.size + 1) (w2.heap.size + 1) L w3 HRD.out HE3.out (by omega) (by omega) (by omega)).mono ?_
    intro e w' h
    have m : Mods (· = w2.heap.size + 1) w3 w' := by rcases h with ⟨_, _, _, _, _, m⟩ | ⟨_, _, m⟩ <;> exact m
    refine ⟨B3.out.trans (m.low (by omega) (by omega)), HX3.out.mods m (by omega), HK3.out.mods m (by omega), ?_⟩
    rcases h with ⟨x, r, h1, h2, h3, _⟩ | ⟨h1, h2, _⟩
    · exact .inl ⟨x, r, h1, h2, h3⟩
    · exact .inr ⟨h1, h2⟩
  rw [hw3, hz2, hw2] at CW
  rw [hw2] at HE2
  have HCW := Lib.hid CW
  clear hL hLs hLn hs hE b2 hb3 hrd HE3 CW hw3 HRD B3 HX3 HK3 HX2 HK2 hz3
  go_enter_defers Tryd.func37, Tryd.ntmps37
  go_wp2_with (go_at_call 63; refine (CS.out _ HE2.out).mono ?_)
  rintro e w' ⟨rfl, rfl⟩
  clear CS HE2
  go_wp2_with fail
  refine HCW.out.mono ?_
  rintro e w5 ⟨b5, x5, k5, ⟨x, r, hx, rfl, hr⟩ | ⟨hx, rfl⟩⟩
  · obtain ⟨kind, ka, kb, kn, kdraw, kmask, ⟨ses, seq, op, key, amount, span, lease⟩⟩ := x
    obtain ⟨A, c, hbr, hrc, hrm, _⟩ := hr
    have hxb : w.heap.size ≠ w.heap.size + 1 + 1 + 1 := by omega
    have hbr' := hbr.setRow_other (k := w.heap.size) #[.int .i64 kind, .int .i64 ka, .int .i64 kb, .int .i64 kn, .int .u64 kdraw, .int .u64 kmask, .int .u64 ses, .int .u64 seq, .int .i64 op, .string ⟨key.toArray⟩, .int .i64 amount, .int .i64 span, .int .u64 lease] hxb.symm
    have HRW := Lib.hid (show Blk (w5.setRow w.heap.size #[.int .i64 kind, .int .i64 ka, .int .i64 kb, .int .i64 kn, .int .u64 kdraw, .int .u64 kmask, .int .u64 ses, .int .u64 seq, .int .i64 op, .string ⟨key.toArray⟩, .int .i64 amount, .int .i64 span, .int .u64 lease]) (w.heap.size + 1 + 1 + 1) Tr #[.slice A r.length c] from hbr')
    have HX6 := Lib.hid (x5.setRow #[.int .i64 kind, .int .i64 ka, .int .i64 kb, .int .i64 kn, .int .u64 kdraw, .int .u64 kmask, .int .u64 ses, .int .u64 seq, .int .i64 op, .string ⟨key.toArray⟩, .int .i64 amount, .int .i64 span, .int .u64 lease])
    have HK6 := Lib.hid (k5.setRow_other (k := w.heap.size) #[.int .i64 kind, .int .i64 ka, .int .i64 kb, .int .i64 kn, .int .u64 kdraw, .int .u64 kmask, .int .u64 ses, .int .u64 seq, .int .i64 op, .string ⟨key.toArray⟩, .int .i64 amount, .int .i64 span, .int .u64 lease] (by omega))
    have B6 : Hid (Below w.heap.size w (w5.setRow w.heap.size #[.int .i64 kind, .int .i64 ka, .int .i64 kb, .int .i64 kn, .int .u64 kdraw, .int .u64 kmask, .int .u64 ses, .int .u64 seq, .int .i64 op, .string ⟨key.toArray⟩, .int .i64 amount, .int .i64 span, .int .u64 lease])) := Lib.hid ⟨b5.os, b5.tape, b5.output, by simpa using b5.size, fun i hi => (Go.setRow_other _ _ _ _ (by omega)).trans (b5.block i hi)⟩
    have HX5 := Lib.hid x5
    have hre := HRW.out.cell 0 rfl
    have hrm' : r.length ≤ 9223372036854775807 := by omega
    have HXR : Hid (rdAct L = some (⟨kind, ka, kb, kn, kdraw, kmask, ⟨ses, seq, op, key, amount, span, lease⟩⟩, r)) := Lib.hid hx
    clear hbr hbr' hxb x5 k5 b5 HCW hx hz2 hw2
    unfold Ap.cells Cm.cells
    simp only [List.cons_append, List.nil_append]
    by_cases hr0 : r = []
    · have HY : Hid (readAct s = some ⟨kind, ka, kb, kn, kdraw, kmask, ⟨ses, seq, op, key, amount, span, lease⟩⟩) := Lib.hid (by unfold readAct whole; rw [← HL.out, HXR.out, hr0])
      have hd : ((r.length : Int) == 0) = true := by rw [hr0]; rfl
      have HXZ := Lib.hid (HX6.out.setRow #[.int .i64 kind, .int .i64 ka, .int .i64 kb, .int .i64 kn, .int .u64 kdraw, .int .u64 kmask, .int .u64 ses, .int .u64 seq, .int .i64 op, .string ⟨key.toArray⟩, .int .i64 amount, .int .i64 span, .int .u64 lease])
      have HKZ := Lib.hid (HK6.out.setRow_other (k := w.heap.size) #[.int .i64 kind, .int .i64 ka, .int .i64 kb, .int .i64 kn, .int .u64 kdraw, .int .u64 kmask, .int .u64 ses, .int .u64 seq, .int .i64 op, .string ⟨key.toArray⟩, .int .i64 amount, .int .i64 span, .int .u64 lease] (by omega))
      have kz := HKZ.out.cell 0 rfl
      have kf := HKZ.out.free 0
      have HXW := Lib.hid (HXZ.out.setCell_other (a := ⟨w.heap.size + 1, 0, none⟩) (.bool true) (show w.heap.size ≠ w.heap.size + 1 by omega))
      have HKW := Lib.hid (HKZ.out.setCell 0 (.bool true))
      have BW : Hid (Below w.heap.size w (((w5.setRow w.heap.size #[.int .i64 kind, .int .i64 ka, .int .i64 kb, .int .i64 kn, .int .u64 kdraw, .int .u64 kmask, .int .u64 ses, .int .u64 seq, .int .i64 op, .string ⟨key.toArray⟩, .int .i64 amount, .int .i64 span, .int .u64 lease]).setRow w.heap.size #[.int .i64 kind, .int .i64 ka, .int .i64 kb, .int .i64 kn, .int .u64 kdraw, .int .u64 kmask, .int .u64 ses, .int .u64 seq, .int .i64 op, .string ⟨key.toArray⟩, .int .i64 amount, .int .i64 span, .int .u64 lease]).setCell ⟨w.heap.size + 1, 0, none⟩ (.bool true))) := Lib.hid (by
        have b := B6.out
        have b' : Below w.heap.size w ((w5.setRow w.heap.size #[.int .i64 kind, .int .i64 ka, .int .i64 kb, .int .i64 kn, .int .u64 kdraw, .int .u64 kmask, .int .u64 ses, .int .u64 seq, .int .i64 op, .string ⟨key.toArray⟩, .int .i64 amount, .int .i64 span, .int .u64 lease]).setRow w.heap.size #[.int .i64 kind, .int .i64 ka, .int .i64 kb, .int .i64 kn, .int .u64 kdraw, .int .u64 kmask, .int .u64 ses, .int .u64 seq, .int .i64 op, .string ⟨key.toArray⟩, .int .i64 amount, .int .i64 span, .int .u64 lease]) := ⟨b.os, b.tape, b.output, by simpa using b.size, fun i hi => (Go.setRow_other _ _ _ _ (by omega)).trans (b.block i hi)⟩
        exact b'.setCell (p := ⟨w.heap.size + 1, 0, none⟩) (by simp) _)
      clear hr0 HXR
      go_wp2_with (first
        | (refine wpList_store_row rfl 35 (.tmp 4) (.tmp 14) rfl w.heap.size #[.int .i64 kind, .int .i64 ka, .int .i64 kb, .int .i64 kn, .int .u64 kdraw, .int .u64 kmask, .int .u64 ses, .int .u64 seq, .int .i64 op, .string ⟨key.toArray⟩, .int .i64 amount, .int .i64 span, .int .u64 lease] rfl rfl _ _ HX5.out act_size' rfl (by simp [Value.oneCell']) ?_; have y0 := HX6.out.cell 0 rfl; have y1 := HX6.out.cell 1 rfl; have y2 := HX6.out.cell 2 rfl; have y3 := HX6.out.cell 3 rfl; have y4 := HX6.out.cell 4 rfl; have y5 := HX6.out.cell 5 rfl; have y6 := HX6.out.cell 6 rfl; have y7 := HX6.out.cell 7 rfl; have y8 := HX6.out.cell 8 rfl; have y9 := HX6.out.cell 9 rfl; have y10 := HX6.out.cell 10 rfl; have y11 := HX6.out.cell 11 rfl; have y12 := HX6.out.cell 12 rfl)
        | (refine wpList_store_row rfl 35 (.tmp 4) (.tmp 23) rfl w.heap.size #[.int .i64 kind, .int .i64 ka, .int .i64 kb, .int .i64 kn, .int .u64 kdraw, .int .u64 kmask, .int .u64 ses, .int .u64 seq, .int .i64 op, .string ⟨key.toArray⟩, .int .i64 amount, .int .i64 span, .int .u64 lease] rfl rfl _ _ HX6.out act_size' rfl (by simp [Value.oneCell']) ?_)
        | (go_at_call 41; with_reducible refine (needT _ _).mono ?_; rintro e w6 ⟨rfl, rfl⟩))
      refine leaves_cons (f := 62) (args := #[.pointer (some ⟨w.heap.size, 0, none⟩), .pointer (some ⟨w.heap.size + 1, 0, none⟩)]) (by simp) (by simp [go_sem]) ?_
      refine (catchActIdle _ _ _).mono ?_
      rintro e u' w7 ⟨rfl, rfl, rfl⟩
      have v0 := HXW.out.cell 0 rfl; have v1 := HXW.out.cell 1 rfl; have v2 := HXW.out.cell 2 rfl; have v3 := HXW.out.cell 3 rfl; have v4 := HXW.out.cell 4 rfl; have v5 := HXW.out.cell 5 rfl; have v6 := HXW.out.cell 6 rfl; have v7 := HXW.out.cell 7 rfl; have v8 := HXW.out.cell 8 rfl; have v9 := HXW.out.cell 9 rfl; have v10 := HXW.out.cell 10 rfl; have v11 := HXW.out.cell 11 rfl; have v12 := HXW.out.cell 12 rfl; have kq := HKW.out.cell 0 rfl
      simp [Leaves, settle, results, Tryd.results37, go_sem, v0, v1, v2, v3, v4, v5, v6, v7, v8, v9, v10, v11, v12, kq]
      exact readActE_yes HY.out rfl BW.out
    · have HN : Hid (readAct s = none) := Lib.hid (by
        unfold readAct whole
        rw [← HL.out, HXR.out]
        cases r with
        | nil => exact absurd rfl hr0
        | cons _ _ => rfl)
      have hd : ((r.length : Int) == 0) = false := by
        have : 0 < r.length := List.length_pos_iff.2 hr0
        rw [beq_eq_false_iff_ne]
        omega
      clear hr0 HXR
      go_wp2_with (first
        | (refine wpList_store_row rfl 35 (.tmp 4) (.tmp 14) rfl w.heap.size #[.int .i64 kind, .int .i64 ka, .int .i64 kb, .int .i64 kn, .int .u64 kdraw, .int .u64 kmask, .int .u64 ses, .int .u64 seq, .int .i64 op, .string ⟨key.toArray⟩, .int .i64 amount, .int .i64 span, .int .u64 lease] rfl rfl _ _ HX5.out act_size' rfl (by simp [Value.oneCell']) ?_)
        | (go_at_call 41; with_reducible refine (needF _ _).mono ?_; rintro e w6 ⟨rfl, rfl⟩))
      refine leaves_cons (f := 62) (args := #[.pointer (some ⟨w.heap.size, 0, none⟩), .pointer (some ⟨w.heap.size + 1, 0, none⟩)]) (by simp) (by simp [go_sem]) ?_
      refine (catchActYes w.heap.size (w.heap.size + 1) [] _ (by omega) _ rfl _ HX6.out HK6.out).mono ?_
      rintro e u' w7 ⟨rfl, rfl, x6, k6, m6⟩
      have y0 := x6.cell 0 rfl; have y1 := x6.cell 1 rfl; have y2 := x6.cell 2 rfl; have y3 := x6.cell 3 rfl; have y4 := x6.cell 4 rfl; have y5 := x6.cell 5 rfl; have y6 := x6.cell 6 rfl; have y7 := x6.cell 7 rfl; have y8 := x6.cell 8 rfl; have y9 := x6.cell 9 rfl; have y10 := x6.cell 10 rfl; have y11 := x6.cell 11 rfl; have y12 := x6.cell 12 rfl
      have z0 := k6.cell 0 rfl
      simp [Leaves, settle, results, Tryd.results37, go_sem, y0, y1, y2, y3, y4, y5, y6, y7, y8, y9, y10, y11, y12, z0]
      exact readActE_no HN.out (B6.out.trans (Mods.old (Below.refl _ _) m6 B6.out.size (fun i _ h => by rcases h with rfl | rfl <;> omega)))
  · have HN : Hid (readAct s = none) := Lib.hid (by unfold readAct whole; rw [← HL.out, hx])
    clear hz2 hw2
    refine leaves_cons (f := 62) (args := #[.pointer (some ⟨w.heap.size, 0, none⟩), .pointer (some ⟨w.heap.size + 1, 0, none⟩)]) (by simp) (by simp [go_sem]) ?_
    refine (catchActYes w.heap.size (w.heap.size + 1) [] w5 (by omega) _ rfl _ x5 k5).mono ?_
    rintro e u' w6 ⟨rfl, rfl, x6, k6, m6⟩
    have y0 := x6.cell 0 rfl; have y1 := x6.cell 1 rfl; have y2 := x6.cell 2 rfl; have y3 := x6.cell 3 rfl; have y4 := x6.cell 4 rfl; have y5 := x6.cell 5 rfl; have y6 := x6.cell 6 rfl; have y7 := x6.cell 7 rfl; have y8 := x6.cell 8 rfl; have y9 := x6.cell 9 rfl; have y10 := x6.cell 10 rfl; have y11 := x6.cell 11 rfl; have y12 := x6.cell 12 rfl
    have z0 := k6.cell 0 rfl
    simp [Leaves, settle, results, Tryd.results37, go_sem, y0, y1, y2, y3, y4, y5, y6, y7, y8, y9, y10, y11, y12, z0]
    exact readActE_no HN.out (b5.trans (Mods.old (Below.refl _ _) m6 b5.size (fun i _ h => by rcases h with rfl | rfl <;> omega)))
end Go.Proofs.YtcinohmhhglpjaaDoor
