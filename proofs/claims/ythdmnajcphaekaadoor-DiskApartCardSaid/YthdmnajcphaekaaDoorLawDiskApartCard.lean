/- DiskApart: for every input that can be read the law returns true, and what was there stays as it was. -/
import Derived.Test.YthdmnajcphaekaaDoorWDiskE
import Derived.Test.YthdmnajcphaekaaDoorArgsS
import Derived.Test.YthdmnajcphaekaaDoorCards
import Derived.Test.YthdmnajcphaekaaDoorTie
import Derived.ProofKit
import Derived.LaidMore
import Derived.Lay
import Derived.SevenTiedAt
import Derived.Stop.Joined
namespace Go.Proofs.YthdmnajcphaekaaDoor.diskApart
open Go.ChangeShapes Go.WideShapes Go.ChangeAt Go.RowKit
open Go.ChangeMaps (open_string shut_string)

set_option maxRecDepth 100000 in
theorem lifted (os : Os) (started : os.Started) (H : Type) (enc : TypeId × Value → H) :
    ReturnsInHanded {} Tryd.checked os 7 .any (fun w args => (Rows.diskApartSpec.pre enc Tryd.prog Tryd.f7 Rows.diskApartRow.domain false w args ∧ laidMetH Tryd.prog Rows.diskApartRow.laid w) ∧ sizedMet enc Tryd.prog Tryd.f7 (OpenSpec.ofChange Rows.diskApartSpec) false w args)
      (Rows.diskApartSpec.post enc Tryd.prog Tryd.f7 false true false false) := by
  refine returnsInHanded_of_change_and (C := Tryd.checked) (X := fun w _ => laidMetH Tryd.prog Rows.diskApartRow.laid w) (fun _ _ _ hh h => h.of_heap hh) own started (by kernel_rfl) Tryd.func7
    (ChangeSpec.witness_shaped (enc := enc) (C := Tryd.checked) (os := os) (X := fun w _ => laidMetH Tryd.prog Rows.diskApartRow.laid w) false (World.laidAll Tryd.prog os Rows.diskApartRow.laid) #[.int .i64 0, .slice none 0 0, .slice none 0 0, .slice none 0 0] 8 (World.laidAll_os _ _ _)
      (World.shaped_of_ZipB (by kernel_rfl) (by kernel_rfl)) (by kernel_rfl) (by kernel_rfl) (by kernel_rfl)
      (by rw [MakeChecks.laidMetH_plain _ _ _ (by kernel_rfl)]; exact laidMet_laidAll _ (by kernel_rfl) (by kernel_rfl))) ?_
  intro W base args ds gs before hval0 hW _ hsz hL _
  have hval : ∀ (j : Nat) t v, Tryd.f7.params[j]? = some t → args[j]? = some v → Value.okWide Tryd.prog W .any base t v := hval0
  have hW' := hW
  obtain ⟨p, q, hA0, hV, rfl, hfz, hnd⟩ := hW
  have hA : DataW.TrodAll enc Tryd.prog W 0 (fun _ => true) true Tryd.f7.params.toList args.toList ds p := hA0
  rw [Tryd.params7] at hA hval
  obtain ⟨v0, vs0, d0, ds0, p0, q0, hargs, rfl, rfl, h0, r0⟩ := trodAll_cons hA
  obtain ⟨v1, vs1, d1, ds1, p1, q1, rfl, rfl, rfl, h1, r1⟩ := trodAll_cons r0
  obtain ⟨v2, vs2, d2, ds2, p2, q2, rfl, rfl, rfl, h2, r2⟩ := trodAll_cons r1
  obtain ⟨v3, vs3, d3, ds3, p3, q3, rfl, rfl, rfl, h3, r3⟩ := trodAll_cons r2
  obtain ⟨rfl, rfl, rfl⟩ := trodAll_nil r3
  obtain rfl : args = #[v0, v1, v2, v3] := by cases args; simp_all
  obtain ⟨rfl, rfl⟩ := trodVars_none hV
  obtain ⟨a0, rfl, rfl, rfl, w0⟩ := open_int Tryd.underlying3 (hval 0 3 v0 rfl rfl) h0
  obtain ⟨A1, c1, L1, rfl, g1, b1, s1, r1', _⟩ := cameS [.int .i64, .str, .int .i64, .bytes, .int .u64] Tryd.underlying22 Tryd.underlying26 (by kernel_rfl) (by decide) (by kernel_rfl) (by kernel_rfl) (hval 1 22 v1 rfl rfl) h1 (weights_each_get hsz (j := 1) rfl rfl)
  obtain ⟨A2, c2, L2, rfl, g2, b2, s2, r2', _⟩ := cameS [.int .i64, .str, .int .i64, .bytes, .int .u64] Tryd.underlying22 Tryd.underlying26 (by kernel_rfl) (by decide) (by kernel_rfl) (by kernel_rfl) (hval 2 22 v2 rfl rfl) h2 (weights_each_get hsz (j := 2) rfl rfl)
  obtain ⟨A3, c3, z3, rfl, w3⟩ := came Tryd.underlying23 Tryd.underlying5 (by kernel_rfl) (hval 3 23 v3 rfl rfl) h3
  have b3 : z3.length * Tryd.prog.bytesOf 5 ≤ 140737488351232 := w3.sized (j := 3) (t := 23) hsz rfl rfl Tryd.underlying23
  rw [show Tryd.prog.bytesOf 5 = 1 from by kernel_rfl] at b3
  obtain ⟨l3, e3, f3⟩ := w3.bytes
  rw [← e3] at b3
  rw [← e3] at hW'
  rw [← e3]
  clear hA0 hval0
  refine (walkDiskApart a0 A1 c1 L1 A2 c2 L2 A3 c3 l3 W (i64_of_wf w0) s1 (by omega) r1' s2 (by omega) r2' f3 (by omega)).mono fun e W' ⟨he, bel⟩ => ⟨_, he, ?_⟩
  exact law_post rfl rfl (by kernel_rfl) rfl hW' bel

theorem held : Rows.DiskApartSaid :=
  OpenClaim.holds_of_wide 7 Tryd.f7 rfl rfl rfl rfl rfl rfl rfl ⟨rfl, rfl, rfl, rfl, rfl⟩ rfl rfl rfl rfl rfl (by kernel_rfl) Tryd.func7 (by kernel_rfl)
    (of_decide_eq_true (by kernel_rfl)) (by unfold Func.isWrapper; first | (rw [if_pos (by decide +kernel)]; kernel_rfl) | (rw [if_neg (by decide +kernel)]; exact ⟨rfl, rfl⟩))
    (fun os started H enc _ => lifted os started H enc)
theorem proved : Rows.DiskApartCardSaid :=
  Claim7.holds_tied_plain_at .later [] [.data, .pinned] true (true, "f01646987390c12928db1a0cd5dc3ab093faf668301bb570e6a074a853549bb6") false held (fun _ h => by cases h) (by kernel_rfl) (fun _ h => by cases h) diskApart_row_tie rfl ⟨rfl, rfl⟩ (by kernel_rfl) rfl
    (fun f fn hf hfn => by
      obtain rfl : f = 7 := Option.some.inj ((show Tryd.prog.funcNamed "scupper/scupperlaw04.DiskApart" = some 7 by kernel_rfl).symm.trans hf) |>.symm
      obtain rfl : fn = Tryd.f7 := (Option.some.inj (Tryd.func7.symm.trans hfn)).symm
      exact ⟨by kernel_rfl, fun j t ht => by
        rw [Tryd.params7] at ht
        have hm : t ∈ ([3, 22, 22, 23] : List TypeId) := by have h := Array.mem_of_getElem? ht; simp only [List.mem_toArray] at h ⊢; exact h
        have hall : (([3, 22, 22, 23] : List TypeId).all fun u => !Tryd.prog.wantsStandIn u) = true := by kernel_rfl
        exact (show Tryd.prog.wantsStandIn t = false by simpa using List.all_eq_true.1 hall t hm)⟩)
    (by kernel_rfl)
#print axioms proved
end Go.Proofs.YthdmnajcphaekaaDoor.diskApart
