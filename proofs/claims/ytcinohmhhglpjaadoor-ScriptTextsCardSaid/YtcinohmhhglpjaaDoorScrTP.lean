/- ScrTP: put together by merge.py of: ScrTP, ScrTQ. -/
import Derived.Test.YtcinohmhhglpjaaDoorScrRx
import Derived.Lib.IndexMore
/- Plain: a script's text line by line, as strings.Cut takes it; what ScriptBack asks. -/
namespace Go.Proofs.YtcinohmhhglpjaaDoor
open Go.Lib

theorem cutL_no {l : List UInt8} (h : (10 : UInt8) ∉ l) : cut l [10] = (l, [], false) := by
  unfold cut
  rw [index_no h]
  rfl
theorem cutL_at {p : List UInt8} (r : List UInt8) (h : (10 : UInt8) ∉ p) : cut (p ++ 10 :: r) [10] = (p, r, true) := by
  unfold cut
  rw [index_at r h, if_pos (by simp)]
  simp [List.drop_append]
theorem cutL_len (l : List UInt8) : (cut l [10]).1.length ≤ l.length ∧ (cut l [10]).2.1.length ≤ l.length ∧ ((cut l [10]).2.2 = true → (cut l [10]).2.1.length + 1 ≤ l.length) := by
  by_cases hm : (10 : UInt8) ∈ l
  · obtain ⟨p, r, rfl, hp⟩ := split_mem hm
    rw [cutL_at r hp]
    simp
    omega
  · rw [cutL_no hm]; simp
theorem readSegs_step {k : Nat} {t : List UInt8} {acc : List Ap} (ht : t ≠ []) : readSegs k (parts 10 t) acc = match readAct (cut t [10]).1 with
    | some a => if (cut t [10]).2.2 = true then readSegs (k + 1) (parts 10 (cut t [10]).2.1) (acc ++ [a]) else .inr k
    | none => .inr k := by
  by_cases hm : (10 : UInt8) ∈ t
  · obtain ⟨p, r, rfl, hp⟩ := split_mem hm
    rw [cutL_at r hp, parts_step hp]
    obtain ⟨m, q, e⟩ : ∃ m q, parts 10 r = m :: q := by
      cases h : parts 10 r with
      | nil => exact absurd h (parts_ne _ _)
      | cons a b => exact ⟨a, b, rfl⟩
    rw [e, readSegs]
    cases readAct p <;> simp
  · rw [cutL_no hm, parts_no hm, readSegs, if_neg ht]
    cases readAct t <;> simp
theorem readSegs_end {k : Nat} {acc : List Ap} : readSegs k (parts 10 []) acc = .inl acc := by
  rw [show parts 10 [] = [[]] from rfl, readSegs, if_pos rfl]
theorem readParts_step (t : List UInt8) : readParts (parts 10 t) = match readSetting (cut t [10]).1 with
    | some zs => if (cut t [10]).2.2 = true then (match readSegs 2 (parts 10 (cut t [10]).2.1) [] with
        | .inl as => .ok zs as
        | .inr k => .bad k) else .bad 1
    | none => .bad 1 := by
  by_cases hm : (10 : UInt8) ∈ t
  · obtain ⟨p, r, rfl, hp⟩ := split_mem hm
    rw [cutL_at r hp, parts_step hp]
    obtain ⟨m, q, e⟩ : ∃ m q, parts 10 r = m :: q := by
      cases h : parts 10 r with
      | nil => exact absurd h (parts_ne _ _)
      | cons a b => exact ⟨a, b, rfl⟩
    rw [e, readParts]
    cases readSetting p with
    | none => rfl
    | some zs =>
      simp only [if_true]
      cases readSegs 2 (m :: q) [] <;> rfl
  · rw [cutL_no hm, parts_no hm, readParts]
    cases readSetting t <;> simp

/-- What ToScript answers of it. -/
def Read.set : Read → List Int
  | .ok zs _ => zs
  | _ => [0, 0, 0, 0, 0, 0, 0, 0, 0, 0]
def Read.acts : Read → List Ap
  | .ok _ as => as
  | _ => []
def Read.line : Read → Int
  | .bad k => k
  | _ => 0
def Read.err : Read → Int
  | .ok _ _ => 0
  | .bad _ => 4
  | .large => 7

/-- The law's questions. -/
theorem back_ok {zs : List Int} {as : List Ap} (h10 : zs.length = 10) (hz : ∀ z ∈ zs, InI z) (ha : ∀ a ∈ as, a.wf) (h : (scriptSays zs as).2 = 0) :
    (scriptSays zs as).1 = texts (setLine zs :: as.map Ap.line) ∧ (scriptSays zs as).1.length ≤ 65536 ∧ (∀ a ∈ as, a.wf ∧ a.ok = true) ∧ as.length ≤ 65536 := by
  unfold scriptSays at h ⊢
  split at h
  · rename_i hall
    split at h
    · rename_i hl
      rw [if_pos hall, if_pos hl]
      exact ⟨script_lines hl.2, hl.2, fun a h => ⟨ha a h, List.all_eq_true.1 hall a h⟩, hl.1⟩
    · cases h
  · cases h
theorem back_read {zs : List Int} {as : List Ap} (h10 : zs.length = 10) (hz : ∀ z ∈ zs, InI z) (ha : ∀ a ∈ as, a.wf ∧ a.ok = true) {t : List UInt8} (ht : t = texts (setLine zs :: as.map Ap.line)) (hl : t.length ≤ 65536) : readScript t = .ok zs as := by
  subst ht
  exact readScript_lines h10 hz ha hl
theorem back_more {zs : List Int} {as : List Ap} {a : Ap} (h10 : zs.length = 10) (hz : ∀ z ∈ zs, InI z) (ha : ∀ a ∈ as, a.wf ∧ a.ok = true) (hw : a.wf) (ho : a.ok = true) {t : List UInt8} (ht : t = texts (setLine zs :: as.map Ap.line)) (hl : t.length < 60000) :
    readScript (t ++ a.line ++ [10]) = .ok zs (as ++ [a]) := by
  have hn := Ap.line_len hw ho
  have e : t ++ a.line ++ [10] = texts (setLine zs :: (as ++ [a]).map Ap.line) := by
    rw [ht]
    simp [texts]
  have hlen : (t ++ a.line ++ [10]).length ≤ 65536 := by simp; omega
  exact back_read h10 hz (fun x hx => by
    rcases List.mem_append.1 hx with hx | hx
    · exact ha x hx
    · rw [List.mem_singleton] at hx; subst hx; exact ⟨hw, ho⟩) e hlen
theorem back_cut {zs : List Int} {as : List Ap} (h10 : zs.length = 10) (hz : ∀ z ∈ zs, InI z) (ha : ∀ a ∈ as, a.wf ∧ a.ok = true) {t : List UInt8} (ht : t = texts (setLine zs :: as.map Ap.line)) (hl : t.length ≤ 65536)
    {k : Nat} (hk : k < t.length) (h : t[k] = 10) : ∃ j, j ≤ as.length ∧ readScript (t.take (k + 1)) = .ok zs (as.take j) := by
  rw [List.take_succ_eq_append_getElem hk, h]
  refine readScript_cut h10 hz ha (by rw [← ht]; exact hl) (t.take k) (t.drop (k + 1)) ?_
  rw [← ht]
  have := List.getElem_cons_drop hk
  rw [h] at this
  rw [this, List.take_append_drop]
theorem back_torn {t : List UInt8} (hl : t.length ≤ 65536) {k : Nat} (hk : k < t.length) (h : t[k] ≠ 10) : ∃ j, readScript (t.take (k + 1)) = .bad j := by
  rw [List.take_succ_eq_append_getElem hk]
  exact readScript_torn h (by rw [List.length_take]; omega)
end Go.Proofs.YtcinohmhhglpjaaDoor
/- Plain: a script's text as the reference's loop reads it; a setting's line number by number. -/
namespace Go.Proofs.YtcinohmhhglpjaaDoor
open Go.Lib

/-- What stands behind i bytes: the line's number, where it began, the setting, the acts so far. -/
structure TInv (t : List UInt8) (i ln f : Nat) (zs : List Int) (acc : List Ap) : Prop where
  le : f ≤ i
  no : (10 : UInt8) ∉ (t.drop f).take (i - f)
  cnt : acc.length ≤ f ∧ ln ≤ f + 1 ∧ 1 ≤ ln
  len : zs.length = 10
  say : (ln = 1 ∧ f = 0 ∧ acc = []) ∨ (2 ≤ ln ∧ readParts (parts 10 t) = match readSegs ln (parts 10 (t.drop f)) acc with
    | .inl as => .ok zs as
    | .inr k => .bad k)
theorem TInv.start (t : List UInt8) : TInv t 0 1 0 [0, 0, 0, 0, 0, 0, 0, 0, 0, 0] [] := ⟨Nat.le_refl _, by simp, by simp, rfl, .inl ⟨rfl, rfl, rfl⟩⟩
section
variable {t : List UInt8} {i ln f : Nat} {zs : List Int} {acc : List Ap}
theorem TInv.skip (h : TInv t i ln f zs acc) (hi : i < t.length) (hc : t[i] ≠ 10) : TInv t (i + 1) ln f zs acc := by
  have h1 := h.le
  refine ⟨by omega, ?_, h.cnt, h.len, h.say⟩
  have e : (t.drop f).take (i + 1 - f) = (t.drop f).take (i - f) ++ [t[i]] := by
    rw [show i + 1 - f = (i - f) + 1 by omega, List.take_succ_eq_append_getElem (by rw [List.length_drop]; omega)]
    congr 2
    rw [List.getElem_drop]
    congr 1
    omega
  rw [e, List.mem_append, List.mem_singleton, not_or]
  exact ⟨h.no, fun e => hc e.symm⟩
theorem TInv.split (h : TInv t i ln f zs acc) (hi : i < t.length) (hc : t[i] = 10) : t.drop f = (t.drop f).take (i - f) ++ 10 :: t.drop (i + 1) := by
  have h1 := h.le
  have e1 : (t.drop f).drop (i - f) = t[i] :: t.drop (i + 1) := by
    rw [List.drop_drop, show f + (i - f) = i by omega]
    exact List.drop_eq_getElem_cons hi
  rw [hc] at e1
  rw [← e1, List.take_append_drop]
theorem TInv.firstNo (h : TInv t i 1 f zs acc) (hi : i < t.length) (hc : t[i] = 10) (hr : readSetting ((t.drop f).take (i - f)) = none) : readParts (parts 10 t) = .bad 1 := by
  rcases h.say with ⟨_, h2, h3⟩ | ⟨h1, _⟩
  · have e := h.split hi hc
    have hn := h.no
    generalize (t.drop f).take (i - f) = p at *
    subst h2
    rw [List.drop_zero] at e
    rw [e, readParts_step, cutL_at _ hn, hr]
  · omega
theorem TInv.first (h : TInv t i 1 f zs acc) (hi : i < t.length) (hc : t[i] = 10) {ys : List Int} (hr : readSetting ((t.drop f).take (i - f)) = some ys) (hy : ys.length = 10) : TInv t (i + 1) 2 (i + 1) ys acc := by
  rcases h.say with ⟨_, h2, h3⟩ | ⟨h1, _⟩
  · have e := h.split hi hc
    have hn := h.no
    generalize (t.drop f).take (i - f) = p at *
    subst h2 h3
    refine ⟨Nat.le_refl _, by simp, by simp, hy, .inr ⟨by omega, ?_⟩⟩
    rw [List.drop_zero] at e
    have e2 : readParts (parts 10 t) = readParts (parts 10 (p ++ 10 :: t.drop (i + 1))) := by rw [← e]
    rw [e2, readParts_step, cutL_at _ hn, hr]
    rfl
  · omega
theorem TInv.actNo (h : TInv t i ln f zs acc) (h2 : 2 ≤ ln) (hi : i < t.length) (hc : t[i] = 10) (hr : readAct ((t.drop f).take (i - f)) = none) : readParts (parts 10 t) = .bad ln := by
  rcases h.say with ⟨h1, _⟩ | ⟨_, h3⟩
  · omega
  · have e := h.split hi hc
    have hn := h.no
    generalize (t.drop f).take (i - f) = p at *
    rw [h3, e, readSegs_step (by simp), cutL_at _ hn, hr]
theorem TInv.act (h : TInv t i ln f zs acc) (h2 : 2 ≤ ln) (hi : i < t.length) (hc : t[i] = 10) {a : Ap} (hr : readAct ((t.drop f).take (i - f)) = some a) : TInv t (i + 1) (ln + 1) (i + 1) zs (acc ++ [a]) := by
  have hle := h.le
  have hcn := h.cnt
  rcases h.say with ⟨h1, _⟩ | ⟨_, h3⟩
  · omega
  · have e := h.split hi hc
    have hn := h.no
    generalize (t.drop f).take (i - f) = p at *
    refine ⟨Nat.le_refl _, by simp, ⟨by simp; omega, by omega, by omega⟩, h.len, .inr ⟨by omega, ?_⟩⟩
    rw [h3, e, readSegs_step (by simp), cutL_at _ hn, hr]
    rfl
theorem TInv.torn (h : TInv t t.length ln f zs acc) (hf : f < t.length) : readParts (parts 10 t) = .bad ln := by
  have hn := h.no
  rw [List.take_of_length_le (by rw [List.length_drop]; exact Nat.le_refl _)] at hn
  have hne : t.drop f ≠ [] := by
    intro e
    have := congrArg List.length e
    simp at this
    omega
  rcases h.say with ⟨h1, h2, _⟩ | ⟨_, h3⟩
  · subst h1 h2
    rw [List.drop_zero] at hn
    rw [parts_no hn]
    rfl
  · rw [h3, parts_no hn, readSegs, if_neg hne]
theorem TInv.none (h : TInv t t.length 1 f zs acc) (hf : ¬ f < t.length) : readParts (parts 10 t) = .bad 1 := by
  rcases h.say with ⟨_, h2, _⟩ | ⟨h1, _⟩
  · subst h2
    have : t = [] := List.eq_nil_of_length_eq_zero (by omega)
    subst this
    rfl
  · omega
theorem TInv.fin (h : TInv t t.length ln f zs acc) (h2 : 2 ≤ ln) (hf : ¬ f < t.length) : readParts (parts 10 t) = .ok zs acc := by
  rcases h.say with ⟨h1, _⟩ | ⟨_, h3⟩
  · omega
  · rw [h3, List.drop_of_length_le (by omega), readSegs_end]
end

/-- What is left of a setting's numbers. -/
def moreInts (m : Nat) (l : List (List UInt8)) (vs : List Int) : Option (List Int) := match rdInts m l with
  | some (zs, []) => some (vs ++ zs)
  | _ => none
theorem readSetting_ints {s w : List UInt8} {l : List (List UInt8)} (h : parts 32 s = w :: l) : readSetting s = if w = setWord then moreInts 10 l [] else none := by
  unfold readSetting whole rdSetting moreInts
  rw [h]
  by_cases hw : w = setWord
  · rw [if_pos hw, Rd.bind_some (x := ()) (r := l) (rd_cons (by simp [isWord, hw]) l)]
    cases rdInts 10 l with
    | none => rfl
    | some p =>
      obtain ⟨zs, r⟩ := p
      cases r <;> rfl
  · rw [if_neg hw, Rd.bind_none (by simp [rd, isWord, hw])]
theorem moreInts_no {m : Nat} {x : List UInt8} {l : List (List UInt8)} {vs : List Int} (h : pint x = none) : moreInts (m + 1) (x :: l) vs = none := by
  unfold moreInts rdInts
  rw [Rd.bind_none (by simp [rd, h])]
theorem moreInts_yes {m : Nat} {x : List UInt8} {v : Int} {l : List (List UInt8)} {vs : List Int} (h : pint x = some v) : moreInts (m + 1) (x :: l) vs = moreInts m l (vs ++ [v]) := by
  unfold moreInts
  rw [rdInts, Rd.bind_some (rd_cons h l)]
  unfold Rd.bind
  cases rdInts m l with
  | none => rfl
  | some p =>
    obtain ⟨zs, r⟩ := p
    cases r with
    | nil => simp [Rd.ret]
    | cons a b => simp [Rd.ret]
theorem moreInts_end (vs : List Int) : moreInts 0 [] vs = some vs := by
  unfold moreInts rdInts
  simp [Rd.ret]
theorem readSetting_len {s : List UInt8} (h : (parts 32 s).length ≠ 11) : readSetting s = none := by
  cases e : readSetting s with
  | none => rfl
  | some zs =>
    obtain ⟨h1, h2, h3⟩ := readSetting_some e
    exfalso
    apply h
    rw [← h1]
    unfold setLine
    rw [parts_tail (by decide) (fun w hw => by
      obtain ⟨z, _, rfl⟩ := List.mem_map.1 hw
      exact (pure_itoa z).1)]
    simp [h2]
end Go.Proofs.YtcinohmhhglpjaaDoor
