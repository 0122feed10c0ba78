/- Bytes as a string, and the codec's own look at itself. -/
import Derived.Test.YtekkcbonkjdgeaaPutNum
import Derived.Test.YtekkcbonkjdgeaaCrc
import Derived.Lib.SlBytesConst
namespace Go.Proofs.Ytekkcbonkjdgeaa
open Go.RowKit

theorem fold_bytes (l : List UInt8) : ∀ s : ByteArray, (l.map fun x => (x.toNat : Int)).foldl (fun r n => r.push (UInt8.ofNat n.toNat)) s = ⟨(s.data.toList ++ l).toArray⟩ := by
  induction l with
  | nil => intro s; simp
  | cons x l ih =>
    intro s
    simp only [List.map_cons, List.foldl_cons, ih, Int.toNat_natCast]
    simp [ByteArray.push]

/-- 'string(b)' of bytes that are there. -/
theorem convB {W : World} {A : Option Addr} {l : List UInt8} (c : Nat) (h : RB W A l) :
    (convert 23 9 (.slice A l.length c)).run Try.prog W = .ok (.string ⟨l.toArray⟩) W := by
  rw [run_convert_bytes_string (P := Try.prog) W 23 9 5 A l.length c Try.underlying23 Try.underlying5 Try.underlying9]
  rcases A with _ | ad
  · have hl0 : l = [] := by
      rcases Nat.eq_zero_or_pos l.length with h0 | h0
      · exact List.eq_nil_of_length_eq_zero h0
      · obtain ⟨b, off, e, _⟩ := h.at_ h0; cases e
    subst hl0
    simp [Conv.bytesToString]
    rfl
  · have hcells : ∀ j v, (bcells l)[j]? = some v → W.cell? (ad.add j) = some v := by
      rcases Nat.eq_zero_or_pos l.length with h0 | h0
      · have hl0 : l = [] := List.eq_nil_of_length_eq_zero h0
        subst hl0
        simp [bcells]
      · obtain ⟨b, off, e, _, hcl⟩ := h.at_ h0
        injection e with e
        subst e
        intro j u hu
        rw [bcells_get] at hu
        obtain ⟨y, hy, rfl⟩ := Option.map_eq_some_iff.1 hu
        have hadd : (⟨b, off, none⟩ : Addr).add j = ⟨b, off + j, none⟩ := by unfold Addr.add; split <;> simp_all
        rw [hadd]
        exact hcl j y hy
    have hload := run_loadCells_list (P := Try.prog) W ad (bcells l) hcells
    rw [bcells_length] at hload
    have e : bcells l = (l.map fun x => (x.toNat : Int)).map (Value.int .u8) := by simp [bcells]
    rw [run_bytesToString W ad l.length c (l.map fun x => (x.toNat : Int)) (by rw [hload, e]), fold_bytes]
    simp

set_option maxHeartbeats 400000 in
theorem codecAnswers (w : World) : Calls Try.prog 15 #[] w fun e w' => e = .returned (.bool true) ∧ Below w.heap.size w w' := by
  have C := Lib.hid (putNumB none 0 [] 256 w RB.nil (by simp) (by omega) (by omega))
  go_enter Try.func15, Try.ntmps15
  go_wp2_with fail
  refine C.out.mono ?_
  rintro e w1 ⟨k1, A1, c1, hk1, hk2, hk3, rfl, ho1, hb1⟩
  obtain rfl : k1 = [2, 1, 0] := by rw [hk1.out]; decide
  clear hk1 hk2 hk3
  have hcv : (convert 23 9 (.slice A1 3 c1)).run Try.prog w1 = .ok (.string ⟨[2, 1, 0].toArray⟩) w1 := convB c1 ho1.rb
  have kc := fun (w : World) (C : Array Value) (n c : Nat) => Lib.run_convert_bytes_const (P := Try.prog) w 23 5 C n c Try.underlying23 Try.underlying5
  go_wp2_with fail
  have hr : RB (w1.alloc (.cells #[.int .u8 49, .int .u8 50, .int .u8 51, .int .u8 52, .int .u8 53, .int .u8 54, .int .u8 55, .int .u8 56, .int .u8 57] 5 (9, 10))) (some ⟨w1.heap.size, 0, none⟩) [49, 50, 51, 52, 53, 54, 55, 56, 57] :=
    RB.of_rv (RV.lit w1 (bcells [49, 50, 51, 52, 53, 54, 55, 56, 57]) 5 (9, 10))
  have C2 := codecSum (some ⟨w1.heap.size + 1, 0, none⟩) 1 [(some ⟨w1.heap.size, 0, none⟩, 9, [49, 50, 51, 52, 53, 54, 55, 56, 57])] _ (RBB.one_at _ 9 (by simp) hr (by decide)) (by simp)
  have hcrc : crc (allB [(some ⟨w1.heap.size, 0, none⟩, 9, [49, 50, 51, 52, 53, 54, 55, 56, 57])]) = 3421780262 := by
    show crc [49, 50, 51, 52, 53, 54, 55, 56, 57] = 3421780262
    decide +kernel
  rw [hcrc] at C2
  have C3 := Lib.hid C2
  clear C2 hcrc
  refine C3.out.mono ?_
  rintro e w2 ⟨rfl, hb2⟩
  clear C3 kc
  go_wp2_with fail
  go_ret
  exact ⟨rfl, hb1.trans ((((Below.refl _ _).alloc hb1.size _).alloc (by have := hb1.size; simp; omega) _).trans (hb2.mono (by have := hb1.size; simp; omega)))⟩
end Go.Proofs.Ytekkcbonkjdgeaa
