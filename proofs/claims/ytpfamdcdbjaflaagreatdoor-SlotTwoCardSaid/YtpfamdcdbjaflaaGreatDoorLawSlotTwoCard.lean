/- SlotTwo: for every input that can be read the law returns true, and what was there stays as it was. -/
import Derived.Test.YtpfamdcdbjaflaaGreatDoorWSlotE
import Derived.Test.YtpfamdcdbjaflaaGreatDoorArgs
import Derived.Test.YtpfamdcdbjaflaaGreatDoorCards
import Derived.Test.YtpfamdcdbjaflaaGreatDoorTie
import Derived.ProofKit
import Derived.LaidMore
import Derived.Lay
import Derived.SevenTiedAt
import Derived.Stop.Joined
namespace Go.Proofs.YtpfamdcdbjaflaaGreatDoor.slotTwo
open Go.ChangeShapes Go.WideShapes Go.ChangeAt Go.RowKit
open Go.ChangeMaps (open_string shut_string)

set_option maxRecDepth 100000 in
theorem lifted (os : Os) (started : os.Started) (H : Type) (enc : TypeId × Value → H) :
    ReturnsInHanded {} Tryz.checked os 6 .any (fun w args => (Rows.slotTwoSpec.pre enc Tryz.prog Tryz.f6 Rows.slotTwoRow.domain false w args ∧ laidMetH Tryz.prog Rows.slotTwoRow.laid w) ∧ sizedMet enc Tryz.prog Tryz.f6 (OpenSpec.ofChange Rows.slotTwoSpec) false w args)
      (Rows.slotTwoSpec.post enc Tryz.prog Tryz.f6 false true false false) := by
  refine returnsInHanded_of_change_and (C := Tryz.checked) (X := fun w _ => laidMetH Tryz.prog Rows.slotTwoRow.laid w) (fun _ _ _ hh h => h.of_heap hh) own started (by kernel_rfl) Tryz.func6
    (ChangeSpec.witness_shaped (enc := enc) (C := Tryz.checked) (os := os) (X := fun w _ => laidMetH Tryz.prog Rows.slotTwoRow.laid w) false (World.laidAll Tryz.prog os Rows.slotTwoRow.laid) #[.slice none 0 0, .slice none 0 0, .int .u64 0, .int .i64 0] 8 (World.laidAll_os _ _ _)
      (World.shaped_of_ZipB (by kernel_rfl) (by kernel_rfl)) (by kernel_rfl) (by kernel_rfl) (by kernel_rfl)
      (by rw [MakeChecks.laidMetH_plain _ _ _ (by kernel_rfl)]; exact laidMet_laidAll _ (by kernel_rfl) (by kernel_rfl))) ?_
  intro W base args ds gs before hval0 hW _ hsz hL _
  have hval : ∀ (j : Nat) t v, Tryz.f6.params[j]? = some t → args[j]? = some v → Value.okWide Tryz.prog W .any base t v := hval0
  have hW' := hW
  obtain ⟨p, q, hA0, hV, rfl, hfz, hnd⟩ := hW
  have hA : DataW.TrodAll enc Tryz.prog W 0 (fun _ => true) true Tryz.f6.params.toList args.toList ds p := hA0
  rw [Tryz.params6] at hA hval
  obtain ⟨v0, vs0, d0, ds0, p0, q0, hargs, rfl, rfl, h0, r0⟩ := trodAll_cons hA
  obtain ⟨v1, vs1, d1, ds1, p1, q1, rfl, rfl, rfl, h1, r1⟩ := trodAll_cons r0
  obtain ⟨v2, vs2, d2, ds2, p2, q2, rfl, rfl, rfl, h2, r2⟩ := trodAll_cons r1
  obtain ⟨v3, vs3, d3, ds3, p3, q3, rfl, rfl, rfl, h3, r3⟩ := trodAll_cons r2
  obtain ⟨rfl, rfl, rfl⟩ := trodAll_nil r3
  obtain rfl : args = #[v0, v1, v2, v3] := by cases args; simp_all
  obtain ⟨rfl, rfl⟩ := trodVars_none hV
  obtain ⟨A0, c0, z0, rfl, w0⟩ := came Tryz.underlying29 Tryz.underlying5 (by kernel_rfl) (hval 0 29 v0 rfl rfl) h0
  have b0 : z0.length * Tryz.prog.bytesOf 5 ≤ 140737488351232 := w0.sized (j := 0) (t := 29) hsz rfl rfl Tryz.underlying29
  rw [show Tryz.prog.bytesOf 5 = 1 from by kernel_rfl] at b0
  obtain ⟨l0, e0, f0⟩ := w0.bytes
  rw [← e0] at b0
  rw [← e0] at hW'
  rw [← e0]
  obtain ⟨A1, c1, z1, rfl, w1⟩ := came Tryz.underlying29 Tryz.underlying5 (by kernel_rfl) (hval 1 29 v1 rfl rfl) h1
  have b1 : z1.length * Tryz.prog.bytesOf 5 ≤ 140737488351232 := w1.sized (j := 1) (t := 29) hsz rfl rfl Tryz.underlying29
  rw [show Tryz.prog.bytesOf 5 = 1 from by kernel_rfl] at b1
  obtain ⟨l1, e1, f1⟩ := w1.bytes
  rw [← e1] at b1
  rw [← e1] at hW'
  rw [← e1]
  obtain ⟨a2, rfl, rfl, rfl, w2⟩ := open_int Tryz.underlying42 (hval 2 42 v2 rfl rfl) h2
  obtain ⟨a3, rfl, rfl, rfl, w3⟩ := open_int Tryz.underlying3 (hval 3 3 v3 rfl rfl) h3
  try clear hA0 hval0
  refine (walkSlotTwo A0 c0 l0 A1 c1 l1 a2 a3 W f0 (by omega) f1 (by omega) (u64_of_wf w2) (i64_of_wf w3) hL).mono fun e W' ⟨he, bel⟩ => ⟨_, he, ?_⟩
  exact law_post rfl rfl (by kernel_rfl) rfl hW' bel

theorem held : Rows.SlotTwoSaid :=
  OpenClaim.holds_of_wide 6 Tryz.f6 rfl rfl rfl rfl rfl rfl rfl ⟨rfl, rfl, rfl, rfl, rfl⟩ rfl rfl rfl rfl rfl (by kernel_rfl) Tryz.func6 (by kernel_rfl)
    (of_decide_eq_true (by kernel_rfl)) (by unfold Func.isWrapper; first | (rw [if_pos (by decide +kernel)]; kernel_rfl) | (rw [if_neg (by decide +kernel)]; exact ⟨rfl, rfl⟩))
    (fun os started H enc _ => lifted os started H enc)
theorem proved : Rows.SlotTwoCardSaid :=
  Claim7.holds_tied_plain_at .later [] [.data, .data, .data, .data, .sentinel, .sentinel, .pinned] true (true, "9bed2f395871ee83892d5bbcf665627bbf0cf7f6820520039a863e02f57c29ec") true held (fun _ h => by cases h) (by kernel_rfl) (fun _ h => by cases h) slotTwo_row_tie rfl ⟨rfl, rfl⟩ (by kernel_rfl) rfl
    (fun f fn hf hfn => by
      obtain rfl : f = 6 := Option.some.inj ((show Tryz.prog.funcNamed "scupper/scupperlaw06.SlotTwo" = some 6 by kernel_rfl).symm.trans hf) |>.symm
      obtain rfl : fn = Tryz.f6 := (Option.some.inj (Tryz.func6.symm.trans hfn)).symm
      exact ⟨by kernel_rfl, fun j t ht => by
        rw [Tryz.params6] at ht
        have hm : t ∈ ([29, 29, 42, 3] : List TypeId) := by have h := Array.mem_of_getElem? ht; simp only [List.mem_toArray] at h ⊢; exact h
        have hall : (([29, 29, 42, 3] : List TypeId).all fun u => !Tryz.prog.wantsStandIn u) = true := by kernel_rfl
        exact (show Tryz.prog.wantsStandIn t = false by simpa using List.all_eq_true.1 hall t hm)⟩)
    (by kernel_rfl)
#print axioms proved
end Go.Proofs.YtpfamdcdbjaflaaGreatDoor.slotTwo
