/- WWalN: put together by merge.py of: WWalA, WWalB. -/
import Derived.Test.YtjgonfnpfbifjaaGreatDoorWalH2
import Derived.Test.YtjgonfnpfbifjaaGreatDoorSEnvB
/- Layer 5's answers; a log of nil; the walk of WalNil. -/
namespace Go.Proofs.YtjgonfnpfbifjaaGreatDoor
open Go.RowKit

/-- A guarded operation whose condition holds, as an unguarded one. -/
theorem wpList_bare {P : Program} {ops : Array Oper} {Q : Exit → Act → World → Prop} {a : Act} {w : World} {rest : List Oper} {dst : Option Tmp} {op : Op} {type : TypeId} {pos : String} {after : Array Edge} {guard : Option (Nat × Bool)}
    (hw : Region.wanted { dst, op, type, pos, after, guard } (yielded ops a.tmps) = true) (h : wpList P ops Q ({ dst, op, type, pos, after, guard := none } :: rest) a w) : wpList P ops Q ({ dst, op, type, pos, after, guard } :: rest) a w := by
  unfold wpList at h ⊢
  rw [if_pos hw]
  rw [if_pos (by rfl)] at h
  exact h
theorem walName_01 : walName 0 1 = [119, 46, 48, 46, 49] := by
  have h0 : Lib.decDigits 0 = [48] := by rw [Lib.decDigits]; simp
  have h1 : Lib.decDigits 1 = [49] := by rw [Lib.decDigits]; simp
  unfold walName
  rw [h0, h1]; rfl
theorem openW_new (r : Int) (h0 : 0 ≤ r) : openW (dsk0 r) = (0, ⟨0, [⟨walName 0 1, 1, [0]⟩], [], 1, false⟩, ⟨[(walName 0 1, [])], [], r, 0, false⟩) := by
  rw [openW_empty rfl rfl]
  have hn : nameOk (walName 0 1) = true := by rw [walName_01]; decide
  have hp : putW (dsk0 r) (walName 0 1) 0 [] = (0, ⟨[], [⟨1, walName 0 1, 0, []⟩], r, 0, false⟩) := by
    unfold putW changeD
    have hr : refuseD (dsk0 r) ⟨1, walName 0 1, 0, []⟩ ((0 : Nat) : Int) = 0 := by
      unfold refuseD
      simp [dsk0, DSt.files, hn, fget, afterN]
    rw [if_neg (by rw [hr]; simp)]
    simp [burnD, dsk0]
  unfold loadF
  rw [if_pos rfl, hp]
  simp [syncD, burnD, DSt.files, doF, fset, fget, putD, resizeD]
set_option maxRecDepth 20000
section
variable {w : World}
theorem walRead_nil (i : Nat) : Calls Tryz.prog 18 #[.pointer none, .int .u64 (i : Int)] w fun e w' => e = .returned (.tuple #[.slice none 0 0, .int .i64 1]) ∧ w = w' := by
  have AL := Lib.hid (walAlive_nil (w := w))
  go_enter Tryz.func18, Tryz.ntmps18
  go_wp2_with (go_at_call 27; refine AL.out.mono ?_)
  first | rintro e w1 ⟨rfl, rfl⟩ | rintro e w1 rfl rfl
  go_wp2_with fail
  go_ret2
  exact ⟨rfl, rfl⟩
theorem walSync_nil : Calls Tryz.prog 11 #[.pointer none] w fun e w' => e = .returned (.int .i64 1) ∧ w = w' := by
  have AL := Lib.hid (walAlive_nil (w := w))
  go_enter Tryz.func11, Tryz.ntmps11
  go_wp2_with (go_at_call 27; refine AL.out.mono ?_)
  first | rintro e w1 ⟨rfl, rfl⟩ | rintro e w1 rfl rfl
  go_wp2_with fail
  go_ret
  exact ⟨rfl, rfl⟩
theorem walCut_nil (i : Int) : Calls Tryz.prog 17 #[.pointer none, .int .u64 i] w fun e w' => e = .returned (.int .i64 1) ∧ w = w' := by
  have AL := Lib.hid (walAlive_nil (w := w))
  go_enter Tryz.func17, Tryz.ntmps17
  go_wp2_with (go_at_call 27; refine AL.out.mono ?_)
  first | rintro e w1 ⟨rfl, rfl⟩ | rintro e w1 rfl rfl
  go_wp2_with fail
  go_ret
  exact ⟨rfl, rfl⟩
theorem walDrop_nil (i : Int) : Calls Tryz.prog 15 #[.pointer none, .int .u64 i] w fun e w' => e = .returned (.int .i64 1) ∧ w = w' := by
  have AL := Lib.hid (walAlive_nil (w := w))
  go_enter Tryz.func15, Tryz.ntmps15
  go_wp2_with (go_at_call 27; refine AL.out.mono ?_)
  first | rintro e w1 ⟨rfl, rfl⟩ | rintro e w1 rfl rfl
  go_wp2_with fail
  go_ret
  exact ⟨rfl, rfl⟩
theorem walReset_nil (i : Int) : Calls Tryz.prog 19 #[.pointer none, .int .u64 i] w fun e w' => e = .returned (.int .i64 1) ∧ w = w' := by
  have AL := Lib.hid (walAlive_nil (w := w))
  go_enter Tryz.func19, Tryz.ntmps19
  go_wp2_with (go_at_call 27; refine AL.out.mono ?_)
  first | rintro e w1 ⟨rfl, rfl⟩ | rintro e w1 rfl rfl
  go_wp2_with fail
  go_ret
  exact ⟨rfl, rfl⟩
theorem walAppend_nil (X : Option Addr) (n c : Nat) : Calls Tryz.prog 10 #[.pointer none, .slice X n c] w fun e w' => e = .returned (.int .i64 1) ∧ w = w' := by
  have AL := Lib.hid (walAlive_nil (w := w))
  go_enter Tryz.func10, Tryz.ntmps10
  go_wp2_with (go_at_call 27; refine AL.out.mono ?_)
  first | rintro e w1 ⟨rfl, rfl⟩ | rintro e w1 rfl rfl
  go_wp2_with fail
  go_ret
  exact ⟨rfl, rfl⟩
theorem walOpen_nil : Calls Tryz.prog 7 #[.pointer none] w fun e w' => e = .returned (.tuple #[.pointer none, .int .i64 1]) ∧ w = w' := by
  go_enter Tryz.func7, Tryz.ntmps7
  go_wp2_with fail
  go_ret2
  exact ⟨rfl, rfl⟩
end
/-- What the law's answers appends. -/
def l78 : List (List UInt8) := [[7], [8]]
def lg1 : Lg := ⟨0, [⟨walName 0 1, 1, [0]⟩], [], 1, false⟩
def dsk1 (r : Int) : DSt := ⟨[(walName 0 1, [])], [], r, 0, false⟩
theorem lg1_fits : lg1.fits = true := by decide
theorem lg1_to : lg1.to = ⟨walName 0 1, 1, [0]⟩ := rfl
theorem append78 : (appendW lg1 (dsk1 9000) l78).1 = 0 ∧ (appendW lg1 (dsk1 9000) l78).2.1.recs = l78 ∧ (appendW lg1 (dsk1 9000) l78).2.1.first = 1 ∧ (appendW lg1 (dsk1 9000) l78).2.1.down = false := by
  have hp : (putW (dsk1 9000) lg1.to.name lg1.to.stop (recsB lg1.next l78)).1 = 0 := by
    unfold putW changeD
    have hl := recsB_len l78 lg1.next (by decide)
    have hr : refuseD (dsk1 9000) ⟨1, lg1.to.name, lg1.to.stop, recsB lg1.next l78⟩ ((lg1.to.stop : Nat) : Int) = 0 := by
      have hlen : (recsB lg1.next l78).length ≤ 40 := by
        have h1 := recB_len lg1.next [7]
        have h2 := recB_len (lg1.next + 1) [8]
        simp only [l78, recsB, List.length_append, List.length_nil, List.length_cons] at *
        omega
      have hn : nameOk (walName 0 1) = true := by rw [walName_01]; decide
      unfold refuseD
      rw [lg1_to]
      simp [dsk1, DSt.files, hn, fget, afterN, fsize, Sg.stop]
      omega
    rw [if_neg (by rw [hr]; simp)]
    simp [burnD, dsk1]
  unfold appendW
  rw [if_neg (by simp [lg1]), if_neg (by decide), if_neg (by decide), if_neg (by rw [hp]; simp)]
  exact ⟨rfl, rfl, rfl, rfl⟩
theorem lg1_fine : lg1.fine := by
  refine ⟨fun s hs => ?_, by decide, by decide, by decide, by decide, by intro r hr; cases hr⟩
  have : s = ⟨walName 0 1, 1, [0]⟩ := by simpa [lg1] using hs
  subst this
  exact ⟨by decide, by decide, by show (walName 0 1).length ≤ 1000; rw [walName_01]; decide, by decide⟩
section
variable {B g : Nat} {S F : Nat → Prop} {w w' : World}
/-- Open on a new disk. -/
theorem walOpenNew (r : Int) (h0 : 0 ≤ r) (h : DI S w g (dsk0 r)) (hB : B ≤ w.heap.size) (hS : ∀ b, S b → B ≤ b) (hE : SEnv B w) :
    Calls Tryz.prog 7 #[.pointer (some ⟨g, 0, none⟩)] w fun e w' => ∃ (p : Nat) (S' F' : Nat → Prop), e = .returned (.tuple #[.pointer (some ⟨p, 0, none⟩), .int .i64 0]) ∧ LR B S' F' w' p g lg1 (dsk1 r) ∧ (∀ b, S' b → S b ∨ w.heap.size ≤ b) ∧ (∀ b, F' b → w.heap.size ≤ b) ∧ Mods S w w' := by
  have h1 := walOpen0 (B := B) h rfl rfl hB hS hE (by show (0 : Nat) ≤ 1000; omega)
  rw [openW_new r h0] at h1
  refine h1.mono ?_
  rintro e w' ⟨p, S', F', rfl, hl, k1, k2, k3⟩
  exact ⟨p, S', F', rfl, hl, k1, k2, k3⟩
theorem rows78 (hS : ∀ b, S b → b < w.heap.size) (hF : ∀ b, F b → b < w.heap.size) :
    RL (fun b => S b ∨ F b) (((w.alloc (.cells #[.int .u8 7] 5)).alloc (.cells #[.int .u8 8] 5)).alloc (.cells #[.slice (some ⟨w.heap.size, 0, none⟩) 1 1, .slice (some ⟨w.heap.size + 1, 0, none⟩) 1 1] 33)) (some ⟨w.heap.size + 2, 0, none⟩) [(some ⟨w.heap.size, 0, none⟩, 1, [7]), (some ⟨w.heap.size + 1, 0, none⟩, 1, [8])] := by
  have hr7 := RB.one w 7 (V := 7) rfl
  have hr8 := RB.one (w.alloc (.cells #[.int .u8 7] 5)) 8 (V := 8) rfl
  rw [show (w.alloc (.cells #[.int .u8 7] 5)).heap.size = w.heap.size + 1 from by simp] at hr8
  have hb := Blk.new ((w.alloc (.cells #[.int .u8 7] 5)).alloc (.cells #[.int .u8 8] 5)) #[.slice (some ⟨w.heap.size, 0, none⟩) 1 1, .slice (some ⟨w.heap.size + 1, 0, none⟩) 1 1] 33
  rw [show ((w.alloc (.cells #[.int .u8 7] 5)).alloc (.cells #[.int .u8 8] 5)).heap.size = w.heap.size + 2 from by simp] at hb
  have a1 := (Below.refl (w.alloc (.cells #[.int .u8 7] 5)).heap.size (w.alloc (.cells #[.int .u8 7] 5))).alloc (Nat.le_refl _) (.cells #[.int .u8 8] 5)
  have a2 := (Below.refl ((w.alloc (.cells #[.int .u8 7] 5)).alloc (.cells #[.int .u8 8] 5)).heap.size ((w.alloc (.cells #[.int .u8 7] 5)).alloc (.cells #[.int .u8 8] 5))).alloc (Nat.le_refl _) (.cells #[.slice (some ⟨w.heap.size, 0, none⟩) 1 1, .slice (some ⟨w.heap.size + 1, 0, none⟩) 1 1] 33)
  refine ⟨⟨⟨fun _ => ⟨w.heap.size + 2, 0, rfl, hb.lt, fun j y hy => ?_⟩⟩, fun t ht => ?_⟩, fun _ b hb => ?_, fun t ht _ b hb => ?_⟩
  · match j with
    | 0 => simp at hy; subst hy; exact hb.cell 0 rfl
    | 1 => simp at hy; subst hy; exact hb.cell 1 rfl
    | j + 2 => simp at hy
  · rcases List.mem_cons.1 ht with rfl | ht
    · exact ⟨(hr7.below a1).below a2, by simp⟩
    · rw [List.mem_singleton.1 ht]
      exact ⟨hr8.below a2, by simp⟩
  · have e : w.heap.size + 2 = b := by simpa using hb
    subst e
    exact fun h => h.elim (fun h => by have := hS _ h; omega) (fun h => by have := hF _ h; omega)
  · rcases List.mem_cons.1 ht with rfl | ht
    · have e : w.heap.size = b := by simpa using hb
      subst e
      exact fun h => h.elim (fun h => by have := hS _ h; omega) (fun h => by have := hF _ h; omega)
    · rw [List.mem_singleton.1 ht] at hb
      have e : w.heap.size + 1 = b := by simpa using hb
      subst e
      exact fun h => h.elim (fun h => by have := hS _ h; omega) (fun h => by have := hF _ h; omega)
end
set_option maxHeartbeats 4000000 in
theorem walAnswers (w : World) (hE : SEnv w.heap.size w) : Calls Tryz.prog 9 #[] w fun e w' => e = .returned (.bool true) ∧ Below w.heap.size w w' := by
  have HE := Lib.hid hE
  have ND := Lib.hid (diskNew 9000 w (by decide) (by decide))
  clear hE
  go_enter Tryz.func9, Tryz.ntmps9
  go_wp2_with (go_at_call 6; refine ND.out.mono ?_)
  first | rintro e w1 ⟨g, rfl, hd, b1⟩ | rintro e w1 g rfl hd b1
  have HB1 := Lib.hid b1
  have OP := Lib.hid (walOpenNew (B := w.heap.size) 9000 (by decide) hd b1.size (fun x hx => hx.1) (HE.out.below b1))
  clear hd b1 ND
  go_wp2_with (go_at_call 7; refine OP.out.mono ?_)
  rintro e w2 ⟨p, S2, F2, rfl, ⟨Z, Y, SA, sc, RA, rc, hx⟩, hs2, hf2, hm2⟩
  have HB2 : Hid (Below w.heap.size w w2) := Lib.hid (Mods.old HB1.out hm2 HB1.out.size (fun i _ h => h.1))
  have hsz2 : w.heap.size ≤ w2.heap.size := HB2.out.size
  obtain ⟨w3, hw3⟩ : ∃ w3, w3 = ((w2.alloc (.cells #[.int .u8 7] 5)).alloc (.cells #[.int .u8 8] 5)).alloc (.cells #[.slice (some ⟨w2.heap.size, 0, none⟩) 1 1, .slice (some ⟨w2.heap.size + 1, 0, none⟩) 1 1] 33) := ⟨_, rfl⟩
  have hb3 : Below w2.heap.size w2 w3 := by rw [hw3]; exact (((Below.refl _ _).alloc (Nat.le_refl _) _).alloc (by simp) _).alloc (by simp; omega) _
  have hb3s : w3.heap.size = w2.heap.size + 3 := by rw [hw3]; simp
  have hRL := rows78 (S := S2) (F := F2) (w := w2) (fun b hb => hx.lb.di.bnd b hb) (fun b hb => (hx.lb.bnd b hb).2)
  rw [← hw3] at hRL
  have hx3 := hx.below hb3
  have AP := walAppend hx3 (by omega) (HE.out.below (HB2.out.trans (hb3.mono hsz2))) (some ⟨w2.heap.size + 2, 0, none⟩) 2 [(some ⟨w2.heap.size, 0, none⟩, 1, [7]), (some ⟨w2.heap.size + 1, 0, none⟩, 1, [8])] hRL (by simp) lg1_fine (by decide)
  obtain ⟨q, hq⟩ : ∃ q, q = appendW lg1 (dsk1 9000) l78 := ⟨_, rfl⟩
  have h78 := append78
  rw [← hq] at h78
  obtain ⟨hq1, hq2, hq3, hq4⟩ := h78
  rw [show List.map (fun x : Option Addr × Nat × List UInt8 => x.2.2) [(some ⟨w2.heap.size, 0, none⟩, 1, [7]), (some ⟨w2.heap.size + 1, 0, none⟩, 1, [8])] = l78 from rfl, ← hq, hq1] at AP
  have HSF : Hid ((∀ b, S2 b → w.heap.size ≤ b) ∧ (∀ b, F2 b → w.heap.size ≤ b)) := Lib.hid ⟨fun b hb => (hs2 b hb).elim (fun h => h.1) (fun h => Nat.le_trans HB1.out.size h), fun b hb => Nat.le_trans HB1.out.size (hf2 b hb)⟩
  have HW3 := Lib.hid hw3
  have HB3 := Lib.hid (HB2.out.trans (hb3.mono hsz2))
  have HQ := Lib.hid (And.intro hq2 (And.intro hq3 hq4))
  rw [hw3] at AP
  have APH := Lib.hid AP
  clear OP hx hw3 hb3 hx3 hRL AP hm2 hs2 hf2 hq hq1 hq2 hq3 hq4 HB1 HB2
  go_wp2_with (go_at_call 10; refine APH.out.mono ?_)
  rw [← HW3.out]
  rintro e w4 ⟨rfl, S4, F4, ⟨Z4, Y4, SA4, sc4, RA4, rc4, hx4⟩, hs4, hf4, hm4⟩
  have HB4 : Hid (Below w.heap.size w w4) := Lib.hid (Mods.old HB3.out hm4 HB3.out.size (fun i _ h => h.elim (HSF.out.1 i) (HSF.out.2 i)))
  have hrd : readW q.2.1 2 = ([8], 0) := by
    unfold readW
    rw [HQ.out.2.2, HQ.out.2.1, HQ.out.1, if_neg (by simp), if_neg (by decide), if_neg (by
      show ¬ q.2.1.first + q.2.1.recs.length ≤ 2
      rw [HQ.out.1, HQ.out.2.1]; decide)]
    rfl
  have RD := walRead hx4 2 (by decide) (by show q.2.1.first + q.2.1.recs.length < _; rw [HQ.out.1, HQ.out.2.1]; decide) (by rw [HQ.out.1]; decide)
  rw [hrd] at RD
  have RDH := Lib.hid RD
  have HX4 := Lib.hid hx4
  clear RD hrd hx4 hs4 hf4 hm4 APH HW3 HB3 HSF HE
  go_wp2_with (go_at_call 18; refine RDH.out.mono ?_)
  rintro e w5 ⟨A, c, n, rfl, rfl, ho, hb5⟩
  have k1 : (convert 33 9 (.slice A 1 c)).run Tryz.prog w5 = .ok (.string ⟨[8].toArray⟩) w5 := convB c ho.rb
  have HB5 := Lib.hid (HB4.out.trans (hb5.mono HB4.out.size))
  have N1 := walNext (HX4.out.below hb5).blk 1 2 rc4 RA4 (by show some (Value.int .u64 (q.2.1.first : Int)) = _; rw [HQ.out.2.1] <;> rfl) (by show some (Value.slice RA4 q.2.1.recs.length rc4) = _; rw [HQ.out.1] <;> rfl) (by decide)
  rw [show (((1 + 2 : Nat)) : Int) = 3 from rfl] at N1
  have NH := Lib.hid N1
  clear RDH HX4 ho hb5 N1 HQ HB4
  go_wp2_with (go_at_call 14; refine NH.out.mono ?_)
  first | rintro e w6 rfl m6 rfl | rintro e w6 ⟨rfl, m6, rfl⟩
  go_wp2_with fail
  go_ret
  exact ⟨rfl, belowDrewN HB5.out _⟩
set_option maxHeartbeats 4000000 in
theorem walkWalNil (w : World) (hE : SEnv w.heap.size w) : Calls Tryz.prog 5 #[] w fun e w' => e = .returned (.bool true) ∧ Below w.heap.size w w' := by
  have HE := Lib.hid hE
  have RN := Lib.hid (walRead_nil (w := w) 1)
  have ON := Lib.hid (walOpen_nil (w := w))
  have AN := Lib.hid (walAnswers w hE)
  clear hE
  go_enter Tryz.func5, Tryz.ntmps5
  go_wp2_with (go_at_call 18; refine RN.out.mono ?_)
  first | rintro e w1 ⟨rfl, rfl⟩ | rintro e w1 rfl rfl
  go_wp2_with (go_at_call 7; refine ON.out.mono ?_)
  first | rintro e w1 ⟨rfl, rfl⟩ | rintro e w1 rfl rfl
  go_wp2_with (go_at_call 9; refine AN.out.mono ?_)
  first | rintro e w2 ⟨rfl, hb2⟩ | rintro e w2 rfl hb2
  have HB2 := Lib.hid hb2
  clear RN ON AN hb2
  go_wp2_with (go_at_call 10; refine (walAppend_nil _ _ _).mono ?_)
  first | rintro e w3 ⟨rfl, rfl⟩ | rintro e w3 rfl rfl
  have hb3 : Below w.heap.size w (w2.alloc (.cells #[.slice none 0 0] 33)) := HB2.out.alloc HB2.out.size _
  generalize w2.alloc (.cells #[.slice none 0 0] 33) = w3 at *
  have HB3 := Lib.hid hb3
  clear hb3 HB2
  go_wp2_with (go_at_call 11; refine walSync_nil.mono ?_)
  first | rintro e w4 ⟨rfl, rfl⟩ | rintro e w4 rfl rfl
  go_wp2_with (go_at_call 17; refine (walCut_nil _).mono ?_)
  first | rintro e w4 ⟨rfl, rfl⟩ | rintro e w4 rfl rfl
  go_wp2_with (go_at_call 15; refine (walDrop_nil _).mono ?_)
  first | rintro e w4 ⟨rfl, rfl⟩ | rintro e w4 rfl rfl
  go_wp2_with (go_at_call 19; refine (walReset_nil _).mono ?_)
  first | rintro e w4 ⟨rfl, rfl⟩ | rintro e w4 rfl rfl
  go_wp2_with (go_at_call 16; refine walFirst_nil.mono ?_)
  first | rintro e w4 ⟨rfl, rfl⟩ | rintro e w4 rfl rfl
  go_wp2_with (go_at_call 14; refine walNext_nil.mono ?_)
  first | rintro e w4 ⟨rfl, rfl⟩ | rintro e w4 rfl rfl
  go_wp2_with fail
  go_ret
  exact ⟨rfl, HB3.out⟩
end Go.Proofs.YtjgonfnpfbifjaaGreatDoor
/- The walk of WalNil, from what the listed variables hold. -/
namespace Go.Proofs.YtjgonfnpfbifjaaGreatDoor
open Go.RowKit
theorem walkWalNilC (w : World) (hl : laidMetH Tryz.prog Rows.walNilRow.laid w) : Calls Tryz.prog 5 #[] w fun e w' => e = .returned (.bool true) ∧ Below w.heap.size w w' :=
  walkWalNil w (senv_of hl (by kernel_rfl) (by simp [Rows.walNilRow]) (by simp [Rows.walNilRow]) (by simp [Rows.walNilRow]))
end Go.Proofs.YtjgonfnpfbifjaaGreatDoor
