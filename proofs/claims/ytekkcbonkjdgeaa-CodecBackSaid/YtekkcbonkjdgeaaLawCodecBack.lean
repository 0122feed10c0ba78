/- CodecBack: for every input that can be read the law returns true, and what was there stays as it was. -/
import Derived.Test.YtekkcbonkjdgeaaWCodecF
import Derived.Test.YtekkcbonkjdgeaaArgs
namespace Go.Proofs.Ytekkcbonkjdgeaa.codecBack
open Go.ChangeShapes Go.WideShapes Go.ChangeAt Go.RowKit
open Go.ChangeMaps (open_string shut_string)

set_option maxRecDepth 100000 in
theorem lifted (os : Os) (started : os.Started) (H : Type) (enc : TypeId × Value → H) :
    ReturnsInHanded {} Try.checked os 13 .any (Rows.codecBackSpec.pre6 enc Try.prog Try.f13 Rows.codecBackRow.domain false) (Rows.codecBackSpec.post enc Try.prog Try.f13 false true false false) := by
  refine returnsInHanded_of_change_sized (C := Try.checked) own started (by kernel_rfl) Try.func13
    (ChangeSpec.witness6 (enc := enc) (C := Try.checked) false ⟨#[], #[.slice none 0 0, .int .u64 0, .slice none 0 0, .int .u16 0], []⟩ 8 (by kernel_rfl) (by kernel_rfl) (by kernel_rfl) (by kernel_rfl)) ?_
  intro W base args ds gs before hval0 hW hcnd hsz _
  have hval : ∀ (j : Nat) t v, Try.f13.params[j]? = some t → args[j]? = some v → Value.okWide Try.prog W .any base t v := hval0
  have hW' := hW
  obtain ⟨p, q, hA0, hV, rfl, hfz, hnd⟩ := hW
  have hA : DataW.TrodAll enc Try.prog W 0 (fun _ => true) true Try.f13.params.toList args.toList ds p := hA0
  rw [Try.params13] at hA hval
  obtain ⟨v0, vs0, d0, ds0, p0, q0, hargs, rfl, rfl, h0, r0⟩ := trodAll_cons hA
  obtain ⟨v1, vs1, d1, ds1, p1, q1, rfl, rfl, rfl, h1, r1⟩ := trodAll_cons r0
  obtain ⟨v2, vs2, d2, ds2, p2, q2, rfl, rfl, rfl, h2, r2⟩ := trodAll_cons r1
  obtain ⟨v3, vs3, d3, ds3, p3, q3, rfl, rfl, rfl, h3, r3⟩ := trodAll_cons r2
  obtain ⟨rfl, rfl, rfl⟩ := trodAll_nil r3
  obtain rfl : args = #[v0, v1, v2, v3] := by cases args; simp_all
  obtain ⟨rfl, rfl⟩ := trodVars_none hV
  obtain ⟨A0, c0, z0, rfl, w0⟩ := came Try.underlying23 Try.underlying5 (by kernel_rfl) (hval 0 23 v0 rfl rfl) h0
  have b0 : z0.length * Try.prog.bytesOf 5 ≤ 140737488351232 := w0.sized (j := 0) (t := 23) hsz rfl rfl Try.underlying23
  rw [show Try.prog.bytesOf 5 = 1 from by kernel_rfl] at b0
  obtain ⟨l0, e0, f0⟩ := w0.bytes
  rw [← e0] at b0
  rw [← e0] at hW'
  rw [← e0]
  obtain ⟨a1, rfl, rfl, rfl, w1⟩ := open_int Try.underlying25 (hval 1 25 v1 rfl rfl) h1
  obtain ⟨A2, c2, z2, rfl, w2⟩ := came Try.underlying23 Try.underlying5 (by kernel_rfl) (hval 2 23 v2 rfl rfl) h2
  have b2 : z2.length * Try.prog.bytesOf 5 ≤ 140737488351232 := w2.sized (j := 2) (t := 23) hsz rfl rfl Try.underlying23
  rw [show Try.prog.bytesOf 5 = 1 from by kernel_rfl] at b2
  obtain ⟨l2, e2, f2⟩ := w2.bytes
  rw [← e2] at b2
  rw [← e2] at hW'
  rw [← e2]
  obtain ⟨a3, rfl, rfl, rfl, w3⟩ := open_int Try.underlying73 (hval 3 73 v3 rfl rfl) h3
  clear hA0 hval0
  refine (walkCodecBack A0 c0 l0 a1 A2 c2 l2 a3 W f0 (by omega) (u64_of_wf w1) f2 (by omega) (u16_of_wf w3)).mono fun e W' ⟨he, bel⟩ => ⟨_, he, ?_⟩
  exact law_post rfl rfl (by kernel_rfl) rfl hW' bel

theorem proved : Rows.CodecBackSaid :=
  OpenClaim.holds_of_wide 13 Try.f13 rfl rfl rfl rfl rfl rfl rfl ⟨rfl, rfl, rfl, rfl, rfl⟩ rfl rfl rfl rfl rfl (by kernel_rfl) Try.func13 (by kernel_rfl)
    (of_decide_eq_true (by kernel_rfl)) (by unfold Func.isWrapper; first | (rw [if_pos (by decide +kernel)]; kernel_rfl) | (rw [if_neg (by decide +kernel)]; exact ⟨rfl, rfl⟩))
    (fun os started H enc _ => lifted os started H enc)
#print axioms proved
end Go.Proofs.Ytekkcbonkjdgeaa.codecBack
