/- A law's argument that is a struct itself: its fields are numbers, bools, strings and lists of bytes. -/
import Derived.Test.YtcinohmhhglpjaaDoorArgsS
namespace Go.Proofs.YtcinohmhhglpjaaDoor
set_option maxRecDepth 20000
open Go.ChangeShapes Go.WideShapes Go.ChangeAt Go.RowKit Go.Deep
section
variable {H : Type} {enc : TypeId × Value → H} {W : World}
theorem cameA {base : Nat} {e : TypeId} {fs : Array Field} {v : Value} {d : DataW H} {p : List MemPlace} (ks : List FK) (he : Tryd.prog.underlying e = some (.struct fs)) (hC : Tryd.prog.cellsOf e = fs.size) (hone : oneCellFields Tryd.prog fs = true)
    (hks : kindsOk Tryd.prog ks fs.toList = true) (hv : Value.okWide Tryd.prog W .any base e v) (h : DataW.Trod enc Tryd.prog W 0 (fun _ => true) true e v d p) (hw : (d.weights Tryd.prog e).all (· ≤ reachBytes) = true) :
    ∃ r : List Fv, v = .agg (r.map Fv.val).toArray ∧ rowOk W ks r := by
  obtain ⟨cs0, rfl, hcs0⟩ := okWide_struct he hv
  obtain ⟨fuel, hf⟩ := h
  obtain ⟨ys, m', _, hy, hlen, hyl, hg⟩ := DataW.trod_struct he hf
  have hcl : (Value.agg cs0).cells.toList = cs0.toList := rfl
  have hy1 : d = .agg (ys.map (·.1)) := by simpa using congrArg Prod.fst hy
  rw [hy1] at hw
  generalize hcs : (Value.agg cs0).cells.toList = cs at *
  obtain ⟨r, hr, hok⟩ := rows_of_fields (W := W) (enc := enc) hks cs (by rw [hlen, hC]; simp) (fun j f hj v hv => by
    have hj' : fs[j]? = some f := by simpa using hj
    obtain ⟨ho, hk⟩ := hone_of hone j f hj'
    have hjl : j < fs.size := (Array.getElem?_eq_some_iff.1 hj').1
    have h1 := hg j f hj'
    have hjc : j < cs.length := by rw [hlen, hC]; exact hjl
    have hvv : cs[j] = v := by rw [List.getElem?_eq_getElem hjc] at hv; simpa using hv
    rw [ho, hk, show (cs.drop j).take 1 = [v] from by rw [List.drop_eq_getElem_cons hjc, hvv]; rfl] at h1
    rw [List.getElem?_eq_getElem (by omega)] at h1
    exact ⟨_, _, h1, weights_struct_field he hw hj' (by rw [List.getElem?_map, List.getElem?_eq_getElem (by omega)]; rfl)⟩)
  refine ⟨r, ?_, hok⟩
  rw [← hr, hcl]
end
end Go.Proofs.YtcinohmhhglpjaaDoor
