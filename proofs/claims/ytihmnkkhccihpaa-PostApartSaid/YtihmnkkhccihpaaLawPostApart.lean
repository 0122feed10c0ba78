/- PostApart: for every input that can be read the law returns true, and what was there stays as it was. -/
import Derived.Test.YtihmnkkhccihpaaPostZ
import Derived.Test.YtihmnkkhccihpaaArgsS
namespace Go.Proofs.Ytihmnkkhccihpaa.postApart
open Go.ChangeShapes Go.WideShapes Go.ChangeAt Go.RowKit
open Go.ChangeMaps (open_string shut_string)

set_option maxRecDepth 100000 in
theorem lifted (os : Os) (started : os.Started) (H : Type) (enc : TypeId × Value → H) :
    ReturnsInHanded {} Try.checked os 7 .any (Rows.postApartSpec.pre6 enc Try.prog Try.f7 Rows.postApartRow.domain false) (Rows.postApartSpec.post enc Try.prog Try.f7 false true false false) := by
  refine returnsInHanded_of_change_sized (C := Try.checked) own started (by kernel_rfl) Try.func7
    (ChangeSpec.witness6 (enc := enc) (C := Try.checked) false ⟨#[], #[.slice none 0 0, .slice none 0 0, .slice none 0 0], []⟩ 8 (by kernel_rfl) (by kernel_rfl) (by kernel_rfl) (by kernel_rfl)) ?_
  intro W base args ds gs before hval0 hW hcnd hsz _
  have hval : ∀ (j : Nat) t v, Try.f7.params[j]? = some t → args[j]? = some v → Value.okWide Try.prog W .any base t v := hval0
  have hW' := hW
  obtain ⟨p, q, hA0, hV, rfl, hfz, hnd⟩ := hW
  have hA : DataW.TrodAll enc Try.prog W 0 (fun _ => true) true Try.f7.params.toList args.toList ds p := hA0
  rw [Try.params7] at hA hval
  obtain ⟨v0, vs0, d0, ds0, p0, q0, hargs, rfl, rfl, h0, r0⟩ := trodAll_cons hA
  obtain ⟨v1, vs1, d1, ds1, p1, q1, rfl, rfl, rfl, h1, r1⟩ := trodAll_cons r0
  obtain ⟨v2, vs2, d2, ds2, p2, q2, rfl, rfl, rfl, h2, r2⟩ := trodAll_cons r1
  obtain ⟨rfl, rfl, rfl⟩ := trodAll_nil r2
  obtain rfl : args = #[v0, v1, v2] := by cases args; simp_all
  obtain ⟨rfl, rfl⟩ := trodVars_none hV
  obtain ⟨A0, c0, L0, rfl, g0, b0, s0, r0', _⟩ := cameS [.int .i64, .int .i64, .int .i64, .bytes] Try.underlying32 Try.underlying35 (by kernel_rfl) (by decide) (by kernel_rfl) (by kernel_rfl) (hval 0 32 v0 rfl rfl) h0 (weights_each_get hsz (j := 0) rfl rfl)
  obtain ⟨A1, c1, L1, rfl, g1, b1, s1, r1', _⟩ := cameS [.int .i64, .int .i64, .int .i64, .bytes] Try.underlying32 Try.underlying35 (by kernel_rfl) (by decide) (by kernel_rfl) (by kernel_rfl) (hval 1 32 v1 rfl rfl) h1 (weights_each_get hsz (j := 1) rfl rfl)
  obtain ⟨A2, c2, z2, rfl, w2⟩ := came Try.underlying33 Try.underlying5 (by kernel_rfl) (hval 2 33 v2 rfl rfl) h2
  have b2 : z2.length * Try.prog.bytesOf 5 ≤ 140737488351232 := w2.sized (j := 2) (t := 33) hsz rfl rfl Try.underlying33
  rw [show Try.prog.bytesOf 5 = 1 from by kernel_rfl] at b2
  obtain ⟨l2, e2, f2⟩ := w2.bytes
  rw [← e2] at b2
  rw [← e2] at hW'
  rw [← e2]
  clear hA0 hval0
  refine (walkPostApart A0 c0 L0 A1 c1 L1 A2 c2 l2 W s0 (by omega) r0' s1 (by omega) r1' f2 (by omega)).mono fun e W' ⟨he, bel⟩ => ⟨_, he, ?_⟩
  exact law_post rfl rfl (by kernel_rfl) rfl hW' bel

theorem proved : Rows.PostApartSaid :=
  OpenClaim.holds_of_wide 7 Try.f7 rfl rfl rfl rfl rfl rfl rfl ⟨rfl, rfl, rfl, rfl, rfl⟩ rfl rfl rfl rfl rfl (by kernel_rfl) Try.func7 (by kernel_rfl)
    (of_decide_eq_true (by kernel_rfl)) (by unfold Func.isWrapper; first | (rw [if_pos (by decide +kernel)]; kernel_rfl) | (rw [if_neg (by decide +kernel)]; exact ⟨rfl, rfl⟩))
    (fun os started H enc _ => lifted os started H enc)
#print axioms proved
end Go.Proofs.Ytihmnkkhccihpaa.postApart
