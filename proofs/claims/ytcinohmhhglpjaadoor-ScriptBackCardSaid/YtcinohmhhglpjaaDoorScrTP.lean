/- Plain: a script's text line by line, as strings.Cut takes it; what ScriptBack asks. -/
import Derived.Test.YtcinohmhhglpjaaDoorScrRx
import Derived.Lib.IndexMore
namespace Go.Proofs.YtcinohmhhglpjaaDoor
open Go.Lib

theorem cutL_no {l : List UInt8} (h : (10 : UInt8) ∉ l) : cut l [10] = (l, [], false) := by
  unfold cut
  rw [index_no h]
  rfl
theorem cutL_at {p : List UInt8} (r : List UInt8) (h : (10 : UInt8) ∉ p) : cut (p ++ 10 :: r) [10] = (p, r, true) := by
  unfold cut
  rw [index_at r h, if_pos (by simp)]
  simp [List.drop_append]
theorem cutL_len (l : List UInt8) : (cut l [10]).1.length ≤ l.length ∧ (cut l [10]).2.1.length ≤ l.length ∧ ((cut l [10]).2.2 = true → (cut l [10]).2.1.length + 1 ≤ l.length) := by
  by_cases hm : (10 : UInt8) ∈ l
  · obtain ⟨p, r, rfl, hp⟩ := split_mem hm
    rw [cutL_at r hp]
    simp
    omega
  · rw [cutL_no hm]; simp
theorem readSegs_step {k : Nat} {t : List UInt8} {acc : List Ap} (ht : t ≠ []) : readSegs k (parts 10 t) acc = match readAct (cut t [10]).1 with
    | some a => if (cut t [10]).2.2 = true then readSegs (k + 1) (parts 10 (cut t [10]).2.1) (acc ++ [a]) else .inr k
    | none => .inr k := by
  by_cases hm : (10 : UInt8) ∈ t
  · obtain ⟨p, r, rfl, hp⟩ := split_mem hm
    rw [cutL_at r hp, parts_step hp]
    obtain ⟨m, q, e⟩ : ∃ m q, parts 10 r = m :: q := by
      cases h : parts 10 r with
      | nil => exact absurd h (parts_ne _ _)
      | cons a b => exact ⟨a, b, rfl⟩
    rw [e, readSegs]
    cases readAct p <;> simp
  · rw [cutL_no hm, parts_no hm, readSegs, if_neg ht]
    cases readAct t <;> simp
theorem readSegs_end {k : Nat} {acc : List Ap} : readSegs k (parts 10 []) acc = .inl acc := by
  rw [show parts 10 [] = [[]] from rfl, readSegs, if_pos rfl]
theorem readParts_step (t : List UInt8) : readParts (parts 10 t) = match readSetting (cut t [10]).1 with
    | some zs => if (cut t [10]).2.2 = true then (match readSegs 2 (parts 10 (cut t [10]).2.1) [] with
        | .inl as => .ok zs as
        | .inr k => .bad k) else .bad 1
    | none => .bad 1 := by
  by_cases hm : (10 : UInt8) ∈ t
  · obtain ⟨p, r, rfl, hp⟩ := split_mem hm
    rw [cutL_at r hp, parts_step hp]
    obtain ⟨m, q, e⟩ : ∃ m q, parts 10 r = m :: q := by
      cases h : parts 10 r with
      | nil => exact absurd h (parts_ne _ _)
      | cons a b => exact ⟨a, b, rfl⟩
    rw [e, readParts]
    cases readSetting p with
    | none => rfl
    | some zs =>
      simp only [if_true]
      cases readSegs 2 (m :: q) [] <;> rfl
  · rw [cutL_no hm, parts_no hm, readParts]
    cases readSetting t <;> simp

/-- What ToScript answers of it. -/
def Read.set : Read → List Int
  | .ok zs _ => zs
  | _ => [0, 0, 0, 0, 0, 0, 0, 0, 0, 0]
def Read.acts : Read → List Ap
  | .ok _ as => as
  | _ => []
def Read.line : Read → Int
  | .bad k => k
  | _ => 0
def Read.err : Read → Int
  | .ok _ _ => 0
  | .bad _ => 4
  | .large => 7

/-- The law's questions. -/
theorem back_ok {zs : List Int} {as : List Ap} (h10 : zs.length = 10) (hz : ∀ z ∈ zs, InI z) (ha : ∀ a ∈ as, a.wf) (h : (scriptSays zs as).2 = 0) :
    (scriptSays zs as).1 = texts (setLine zs :: as.map Ap.line) ∧ (scriptSays zs as).1.length ≤ 65536 ∧ (∀ a ∈ as, a.wf ∧ a.ok = true) ∧ as.length ≤ 65536 := by
  unfold scriptSays at h ⊢
  split at h
  · rename_i hall
    split at h
    · rename_i hl
      rw [if_pos hall, if_pos hl]
      exact ⟨script_lines hl.2, hl.2, fun a h => ⟨ha a h, List.all_eq_true.1 hall a h⟩, hl.1⟩
    · cases h
  · cases h
theorem back_read {zs : List Int} {as : List Ap} (h10 : zs.length = 10) (hz : ∀ z ∈ zs, InI z) (ha : ∀ a ∈ as, a.wf ∧ a.ok = true) {t : List UInt8} (ht : t = texts (setLine zs :: as.map Ap.line)) (hl : t.length ≤ 65536) : readScript t = .ok zs as := by
  subst ht
  exact readScript_lines h10 hz ha hl
theorem back_more {zs : List Int} {as : List Ap} {a : Ap} (h10 : zs.length = 10) (hz : ∀ z ∈ zs, InI z) (ha : ∀ a ∈ as, a.wf ∧ a.ok = true) (hw : a.wf) (ho : a.ok = true) {t : List UInt8} (ht : t = texts (setLine zs :: as.map Ap.line)) (hl : t.length < 60000) :
    readScript (t ++ a.line ++ [10]) = .ok zs (as ++ [a]) := by
  have hn := Ap.line_len hw ho
  have e : t ++ a.line ++ [10] = texts (setLine zs :: (as ++ [a]).map Ap.line) := by
    rw [ht]
    simp [texts]
  have hlen : (t ++ a.line ++ [10]).length ≤ 65536 := by simp; omega
  exact back_read h10 hz (fun x hx => by
    rcases List.mem_append.1 hx with hx | hx
    · exact ha x hx
    · rw [List.mem_singleton] at hx; subst hx; exact ⟨hw, ho⟩) e hlen
theorem back_cut {zs : List Int} {as : List Ap} (h10 : zs.length = 10) (hz : ∀ z ∈ zs, InI z) (ha : ∀ a ∈ as, a.wf ∧ a.ok = true) {t : List UInt8} (ht : t = texts (setLine zs :: as.map Ap.line)) (hl : t.length ≤ 65536)
    {k : Nat} (hk : k < t.length) (h : t[k] = 10) : ∃ j, j ≤ as.length ∧ readScript (t.take (k + 1)) = .ok zs (as.take j) := by
  rw [List.take_succ_eq_append_getElem hk, h]
  refine readScript_cut h10 hz ha (by rw [← ht]; exact hl) (t.take k) (t.drop (k + 1)) ?_
  rw [← ht]
  have := List.getElem_cons_drop hk
  rw [h] at this
  rw [this, List.take_append_drop]
theorem back_torn {t : List UInt8} (hl : t.length ≤ 65536) {k : Nat} (hk : k < t.length) (h : t[k] ≠ 10) : ∃ j, readScript (t.take (k + 1)) = .bad j := by
  rw [List.take_succ_eq_append_getElem hk]
  exact readScript_torn h (by rw [List.length_take]; omega)
end Go.Proofs.YtcinohmhhglpjaaDoor
