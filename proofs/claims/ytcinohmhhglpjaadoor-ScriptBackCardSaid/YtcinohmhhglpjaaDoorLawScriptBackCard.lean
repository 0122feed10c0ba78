/- ScriptBack: for every input that can be read the law returns true, and what was there stays as it was. -/
import Derived.Test.YtcinohmhhglpjaaDoorWScrB
import Derived.Test.YtcinohmhhglpjaaDoorArgsN
import Derived.Test.YtcinohmhhglpjaaDoorCards
import Derived.Test.YtcinohmhhglpjaaDoorTie
import Derived.ProofKit
import Derived.LaidMore
import Derived.Lay
import Derived.SevenTiedAt
import Derived.Stop.Joined
namespace Go.Proofs.YtcinohmhhglpjaaDoor.scriptBack
open Go.ChangeShapes Go.WideShapes Go.ChangeAt Go.RowKit
open Go.ChangeMaps (open_string shut_string)

set_option maxRecDepth 100000 in
theorem lifted (os : Os) (started : os.Started) (H : Type) (enc : TypeId × Value → H) :
    ReturnsInHanded {} Tryd.checked os 8 .any (fun w args => (Rows.scriptBackSpec.pre enc Tryd.prog Tryd.f8 Rows.scriptBackRow.domain false w args ∧ laidMetH Tryd.prog Rows.scriptBackRow.laid w) ∧ sizedMet enc Tryd.prog Tryd.f8 (OpenSpec.ofChange Rows.scriptBackSpec) false w args)
      (Rows.scriptBackSpec.post enc Tryd.prog Tryd.f8 false true false false) := by
  refine returns_shaped (C := Tryd.checked) (X := fun w _ => laidMetH Tryd.prog Rows.scriptBackRow.laid w) (fun _ _ _ hh h => h.of_heap hh) own started (by kernel_rfl) Tryd.func8
    (ChangeSpec.witness_shaped (enc := enc) (C := Tryd.checked) (os := os) (X := fun w _ => laidMetH Tryd.prog Rows.scriptBackRow.laid w) false (World.laidAll Tryd.prog os Rows.scriptBackRow.laid) #[.agg #[.int .i64 0, .int .i64 0, .int .i64 0, .int .i64 0, .int .i64 0, .int .i64 0, .int .i64 0, .int .i64 0, .int .i64 0, .int .i64 0], .slice none 0 0, .agg #[.int .i64 0, .int .i64 0, .int .i64 0, .int .i64 0, .int .u64 0, .int .u64 0, .int .u64 0, .int .u64 0, .int .i64 0, .string ⟨#[]⟩, .int .i64 0, .int .i64 0, .int .u64 0], .int .u16 0] 8 (World.laidAll_os _ _ _)
      (World.shaped_of_ZipB (by kernel_rfl) (by kernel_rfl)) (by kernel_rfl) (by kernel_rfl) (by kernel_rfl)
      (by rw [MakeChecks.laidMetH_plain _ _ _ (by kernel_rfl)]; exact laidMet_laidAll _ (by kernel_rfl) (by kernel_rfl))) ?_
  intro W base args ds gs before hval0 hW _ hsz hL hSh
  have hval : ∀ (j : Nat) t v, Tryd.f8.params[j]? = some t → args[j]? = some v → Value.okWide Tryd.prog W .any base t v := hval0
  have hW' := hW
  obtain ⟨p, q, hA0, hV, rfl, hfz, hnd⟩ := hW
  have hA : DataW.TrodAll enc Tryd.prog W 0 (fun _ => true) true Tryd.f8.params.toList args.toList ds p := hA0
  rw [Tryd.params8] at hA hval
  obtain ⟨v0, vs0, d0, ds0, p0, q0, hargs, rfl, rfl, h0, r0⟩ := trodAll_cons hA
  obtain ⟨v1, vs1, d1, ds1, p1, q1, rfl, rfl, rfl, h1, r1⟩ := trodAll_cons r0
  obtain ⟨v2, vs2, d2, ds2, p2, q2, rfl, rfl, rfl, h2, r2⟩ := trodAll_cons r1
  obtain ⟨v3, vs3, d3, ds3, p3, q3, rfl, rfl, rfl, h3, r3⟩ := trodAll_cons r2
  obtain ⟨rfl, rfl, rfl⟩ := trodAll_nil r3
  obtain rfl : args = #[v0, v1, v2, v3] := by cases args; simp_all
  obtain ⟨rfl, rfl⟩ := trodVars_none hV
  obtain ⟨R0, rfl, r0'⟩ := cameA [.int .i64, .int .i64, .int .i64, .int .i64, .int .i64, .int .i64, .int .i64, .int .i64, .int .i64, .int .i64] Tryd.underlying23 (by kernel_rfl) (by kernel_rfl) (by kernel_rfl) (hval 0 23 v0 rfl rfl) h0 (weights_each_get hsz (j := 0) rfl rfl)
  obtain ⟨A1, c1, L1, rfl, g1, b1, s1, r1', d1'⟩ := cameSN [.one (.int .i64), .one (.int .i64), .one (.int .i64), .one (.int .i64), .one (.int .u64), .one (.int .u64), .sub [.int .u64, .int .u64, .int .i64, .str, .int .i64, .int .i64, .int .u64]] 13 Tryd.underlying24 Tryd.underlying35 (by kernel_rfl) (by decide) (by decide) (by kernel_rfl) (hval 1 24 v1 rfl rfl) h1 (weights_each_get hsz (j := 1) rfl rfl)
  have z1 := nested_bulk Tryd.underlying24 d1' (weights_each_get hsz (j := 1) rfl rfl)
  rw [show Tryd.prog.bytesOf 35 = _ from by kernel_rfl] at z1
  obtain ⟨R2, rfl, r2'⟩ := cameAN [.one (.int .i64), .one (.int .i64), .one (.int .i64), .one (.int .i64), .one (.int .u64), .one (.int .u64), .sub [.int .u64, .int .u64, .int .i64, .str, .int .i64, .int .i64, .int .u64]] 13 Tryd.underlying35 (by kernel_rfl) (by decide) (by kernel_rfl) (hval 2 35 v2 rfl rfl) h2 (weights_each_get hsz (j := 2) rfl rfl)
  obtain ⟨a3, rfl, rfl, rfl, w3⟩ := open_int Tryd.underlying57 (hval 3 57 v3 rfl rfl) h3
  try clear hA0 hval0
  refine (walkScriptBack R0 A1 c1 L1 R2 a3 W r0' s1 z1 r1' g1 b1 r2' (u16_of_wf w3) hL hSh).mono fun e W' ⟨he, bel⟩ => ⟨_, he, ?_⟩
  exact law_post rfl rfl (by kernel_rfl) rfl hW' bel

theorem held : Rows.ScriptBackSaid :=
  OpenClaim.holds_of_wide 8 Tryd.f8 rfl rfl rfl rfl rfl rfl rfl ⟨rfl, rfl, rfl, rfl, rfl⟩ rfl rfl rfl rfl rfl (by kernel_rfl) Tryd.func8 (by kernel_rfl)
    (of_decide_eq_true (by kernel_rfl)) (by unfold Func.isWrapper; first | (rw [if_pos (by decide +kernel)]; kernel_rfl) | (rw [if_neg (by decide +kernel)]; exact ⟨rfl, rfl⟩))
    (fun os started H enc _ => lifted os started H enc)
theorem proved : Rows.ScriptBackCardSaid :=
  Claim7.holds_tied_plain_at .later [] [.data, .data, .data, .data, .sentinel, .sentinel, .widerDeep, .pinned] true (true, "bc26faf7c77aa933ed5a368f1b8a9184b783a756b9a0b051135ced1131ae2b25") true held (fun _ h => by cases h) (by kernel_rfl) (fun _ h => by cases h) scriptBack_row_tie rfl ⟨rfl, rfl⟩ (by kernel_rfl) rfl
    (fun f fn hf hfn => by
      obtain rfl : f = 8 := Option.some.inj ((show Tryd.prog.funcNamed "scupper/scupperlaw21.ScriptBack" = some 8 by kernel_rfl).symm.trans hf) |>.symm
      obtain rfl : fn = Tryd.f8 := (Option.some.inj (Tryd.func8.symm.trans hfn)).symm
      exact ⟨by kernel_rfl, fun j t ht => by
        rw [Tryd.params8] at ht
        have hm : t ∈ ([23, 24, 35, 57] : List TypeId) := by have h := Array.mem_of_getElem? ht; simp only [List.mem_toArray] at h ⊢; exact h
        have hall : (([23, 24, 35, 57] : List TypeId).all fun u => !Tryd.prog.wantsStandIn u) = true := by kernel_rfl
        exact (show Tryd.prog.wantsStandIn t = false by simpa using List.all_eq_true.1 hall t hm)⟩)
    (by kernel_rfl)
#print axioms proved
end Go.Proofs.YtcinohmhhglpjaaDoor.scriptBack
