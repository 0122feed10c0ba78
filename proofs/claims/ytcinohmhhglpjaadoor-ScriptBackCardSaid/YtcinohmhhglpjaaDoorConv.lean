/- Bytes as a string, strings put together. -/
import Derived.Test.YtcinohmhhglpjaaDoorMem
import Derived.Lib.SlBytesConst
namespace Go.Proofs.YtcinohmhhglpjaaDoor
open Go.RowKit

theorem fold_bytes (l : List UInt8) : ∀ s : ByteArray, (l.map fun x => (x.toNat : Int)).foldl (fun r n => r.push (UInt8.ofNat n.toNat)) s = ⟨(s.data.toList ++ l).toArray⟩ := by
  induction l with
  | nil => intro s; simp
  | cons x l ih =>
    intro s
    simp only [List.map_cons, List.foldl_cons, ih, Int.toNat_natCast]
    simp [ByteArray.push]

/-- 'string(b)' of bytes that are there. -/
theorem convB {W : World} {A : Option Addr} {l : List UInt8} (c : Nat) (h : RB W A l) :
    (convert 60 9 (.slice A l.length c)).run Tryd.prog W = .ok (.string ⟨l.toArray⟩) W := by
  rw [run_convert_bytes_string (P := Tryd.prog) W 60 9 5 A l.length c Tryd.underlying60 Tryd.underlying5 Tryd.underlying9]
  rcases A with _ | ad
  · have hl0 : l = [] := by
      rcases Nat.eq_zero_or_pos l.length with h0 | h0
      · exact List.eq_nil_of_length_eq_zero h0
      · obtain ⟨b, off, e, _⟩ := h.at_ h0; cases e
    subst hl0
    simp [Conv.bytesToString]
    rfl
  · have hcells : ∀ j v, (bcells l)[j]? = some v → W.cell? (ad.add j) = some v := by
      rcases Nat.eq_zero_or_pos l.length with h0 | h0
      · have hl0 : l = [] := List.eq_nil_of_length_eq_zero h0
        subst hl0
        simp [bcells]
      · obtain ⟨b, off, e, _, hcl⟩ := h.at_ h0
        injection e with e
        subst e
        intro j u hu
        rw [bcells_get] at hu
        obtain ⟨y, hy, rfl⟩ := Option.map_eq_some_iff.1 hu
        have hadd : (⟨b, off, none⟩ : Addr).add j = ⟨b, off + j, none⟩ := by unfold Addr.add; split <;> simp_all
        rw [hadd]
        exact hcl j y hy
    have hload := run_loadCells_list (P := Tryd.prog) W ad (bcells l) hcells
    rw [bcells_length] at hload
    have e : bcells l = (l.map fun x => (x.toNat : Int)).map (Value.int .u8) := by simp [bcells]
    rw [run_bytesToString W ad l.length c (l.map fun x => (x.toNat : Int)) (by rw [hload, e]), fold_bytes]
    simp

theorem concatB (x y : List UInt8) (h : x.length + y.length ≤ 9223372036854775807) (W : World) : (Op.stringOp .add ⟨x.toArray⟩ ⟨y.toArray⟩).run Tryd.prog W = .ok (.string ⟨(x ++ y).toArray⟩) W := by
  rw [run_string_add_sum W _ _ (by simp [ByteArray.size]; omega), ByteArray.mk_append_mk]
end Go.Proofs.YtcinohmhhglpjaaDoor
