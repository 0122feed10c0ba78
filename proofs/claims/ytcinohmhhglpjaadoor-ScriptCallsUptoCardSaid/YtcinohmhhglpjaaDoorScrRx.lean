/- Plain: a setting's line read; a script's text read; what was written is read as it was; cut off anywhere. -/
import Derived.Test.YtcinohmhhglpjaaDoorScrRd
namespace Go.Proofs.YtcinohmhhglpjaaDoor
open Go.Lib

def InI (z : Int) : Prop := -9223372036854775808 ≤ z ∧ z ≤ 9223372036854775807
/-- n numbers with a sign. -/
def rdInts : Nat → Rd (List Int)
  | 0 => Rd.ret []
  | n + 1 => Rd.bind (rd pint) fun x => Rd.bind (rdInts n) fun r => Rd.ret (x :: r)
theorem rdInts_words : ∀ (zs : List Int) (r : List (List UInt8)), (∀ z ∈ zs, InI z) → rdInts zs.length (zs.map itoa ++ r) = some (zs, r)
  | [], r, _ => rfl
  | z :: zs, r, h => by
    have hz := h z (List.mem_cons_self ..)
    simp only [List.length_cons, List.map_cons, List.cons_append]
    rw [rdInts, Rd.bind_some (rd_cons (pint_itoa hz.1 hz.2) _), Rd.bind_some (rdInts_words zs r (fun x hx => h x (List.mem_cons_of_mem _ hx)))]
    rfl
theorem rdInts_some : ∀ {n : Nat} {l r : List (List UInt8)} {zs : List Int}, rdInts n l = some (zs, r) → l = zs.map itoa ++ r ∧ zs.length = n ∧ ∀ z ∈ zs, InI z
  | 0, l, r, zs, h => by
    simp only [rdInts, Rd.ret, Option.some.injEq, Prod.mk.injEq] at h
    obtain ⟨rfl, rfl⟩ := h
    exact ⟨rfl, rfl, by simp⟩
  | n + 1, l, r, zs, h => by
    rw [rdInts] at h
    obtain ⟨x, t, e1, h⟩ := Rd.bind_eq h
    obtain ⟨y, u, e2, hz⟩ := Rd.bind_eq h
    obtain ⟨s, rfl, q⟩ := rd_eq e1
    obtain ⟨rfl, i2, i3⟩ := rdInts_some e2
    unfold Rd.ret at hz
    injection hz with hz
    injection hz with h1 h2
    subst h1 h2
    obtain ⟨a1, b1, c1⟩ := pint_some q
    exact ⟨by simp [a1], by simp [i2], fun z hz => by
      rcases List.mem_cons.1 hz with rfl | hz
      · exact ⟨b1, c1⟩
      · exact i3 z hz⟩
def isWord (w : List UInt8) (s : List UInt8) : Option Unit := if s = w then some () else none
def rdSetting : Rd (List Int) := Rd.bind (rd (isWord setWord)) fun _ => rdInts 10
def readSetting (l : List UInt8) : Option (List Int) := whole rdSetting l
theorem readSetting_line {zs : List Int} (h10 : zs.length = 10) (h : ∀ z ∈ zs, InI z) : readSetting (setLine zs) = some zs := by
  unfold readSetting whole setLine
  rw [parts_tail (by decide) (fun s hs => by obtain ⟨z, _, rfl⟩ := List.mem_map.1 hs; exact (pure_itoa z).1)]
  have e := rdInts_words zs [] h
  rw [h10, List.append_nil] at e
  unfold rdSetting
  rw [Rd.bind_some (rd_cons (show isWord setWord setWord = some () by simp [isWord]) _), e]
theorem readSetting_some {l : List UInt8} {zs : List Int} (h : readSetting l = some zs) : setLine zs = l ∧ zs.length = 10 ∧ ∀ z ∈ zs, InI z := by
  have h := whole_some h
  unfold rdSetting at h
  obtain ⟨x, t, e1, h'⟩ := Rd.bind_eq h
  obtain ⟨s, hs, q⟩ := rd_eq e1
  obtain ⟨rfl, i2, i3⟩ := rdInts_some h'
  unfold isWord at q
  split at q
  · rename_i hw
    subst hw
    rw [List.append_nil] at hs
    exact ⟨(parts_back _ _ _ hs).symm, i2, i3⟩
  · cases q

/-- A text: its setting and acts, or the line that is none. -/
inductive Read where
  | large
  | bad (line : Nat)
  | ok (zs : List Int) (as : List Ap)
def readSegs : Nat → List (List UInt8) → List Ap → (List Ap) ⊕ Nat
  | k, [], _ => .inr k
  | k, [l], acc => if l = [] then .inl acc else .inr k
  | k, l :: m :: r, acc => match readAct l with
    | some a => readSegs (k + 1) (m :: r) (acc ++ [a])
    | none => .inr k
def readParts : List (List UInt8) → Read
  | [] => .bad 1
  | [_] => .bad 1
  | l :: m :: r => match readSetting l with
    | none => .bad 1
    | some zs => match readSegs 2 (m :: r) [] with
      | .inl as => .ok zs as
      | .inr k => .bad k
def readScript (t : List UInt8) : Read := if 65536 < t.length then .large else readParts (parts 10 t)

theorem readSegs_ok : ∀ (as : List Ap) (k : Nat) (acc : List Ap), (∀ a ∈ as, a.wf ∧ a.ok = true) → readSegs k (as.map Ap.line ++ [[]]) acc = .inl (acc ++ as)
  | [], k, acc, _ => by simp [readSegs]
  | a :: r, k, acc, h => by
    obtain ⟨h1, h2⟩ := h a (List.mem_cons_self ..)
    have ih := readSegs_ok r (k + 1) (acc ++ [a]) (fun x hx => h x (List.mem_cons_of_mem _ hx))
    rw [List.map_cons, List.cons_append]
    obtain ⟨m, t, e⟩ : ∃ m t, r.map Ap.line ++ [[]] = m :: t := by
      cases r with
      | nil => exact ⟨_, _, rfl⟩
      | cons b r => exact ⟨_, _, rfl⟩
    rw [e] at ih ⊢
    rw [readSegs, readAct_line h1 h2]
    simp only
    rw [ih]
    simp
theorem readSegs_cut {x : List UInt8} (hx : x ≠ []) : ∀ (ls : List (List UInt8)) (k : Nat) (acc : List Ap), ∃ j, readSegs k (ls ++ [x]) acc = .inr j
  | [], k, acc => ⟨k, by simp [readSegs, hx]⟩
  | l :: r, k, acc => by
    obtain ⟨m, t, e⟩ : ∃ m t, r ++ [x] = m :: t := by
      cases r with
      | nil => exact ⟨_, _, rfl⟩
      | cons b r => exact ⟨_, _, rfl⟩
    rw [List.cons_append, e, readSegs]
    split
    · rw [← e]; exact readSegs_cut hx r _ _
    · exact ⟨k, rfl⟩

/-- A text's lines, each with its end. -/
def texts (ls : List (List UInt8)) : List UInt8 := (ls.map fun l => l ++ [10]).flatten
theorem parts_mid (b : UInt8) : ∀ (p r : List UInt8), parts b (p ++ b :: r) = parts b p ++ parts b r
  | [], r => by simp [parts]
  | c :: p, r => by
    have ih := parts_mid b p r
    rw [List.cons_append, parts, ih]
    conv => rhs; rw [parts]
    split
    · rfl
    · split
      · rename_i e; exact absurd e (by simp [parts_ne])
      · rename_i w ws e
        split
        · rename_i e'; exact absurd e' (parts_ne _ _)
        · rename_i w' ws' e'
          rw [e'] at e
          simp only [List.cons_append, List.cons.injEq] at e
          obtain ⟨rfl, rfl⟩ := e
          rfl
theorem parts_texts : ∀ (ls : List (List UInt8)), (∀ l ∈ ls, (10 : UInt8) ∉ l) → ∀ r, parts 10 (texts ls ++ r) = ls ++ parts 10 r
  | [], _, r => rfl
  | l :: ls, h, r => by
    have ih := parts_texts ls (fun x hx => h x (List.mem_cons_of_mem _ hx)) r
    have e : texts (l :: ls) ++ r = l ++ 10 :: (texts ls ++ r) := by simp [texts]
    rw [e, parts_step (h l (List.mem_cons_self ..)), ih]
    rfl
theorem pure_tail : ∀ {ws : List (List UInt8)}, (∀ s ∈ ws, Pure s) → (10 : UInt8) ∉ tailw ws
  | [], _ => by simp [tailw]
  | s :: ws, h => by
    have h1 := (h s (List.mem_cons_self ..)).2
    have h2 := pure_tail (ws := ws) (fun x hx => h x (List.mem_cons_of_mem _ hx))
    simp only [tailw, List.mem_cons, List.mem_append, not_or]
    exact ⟨by decide, h1, h2⟩
theorem Ap.line_pure {a : Ap} (h : a.ok = true) : (10 : UInt8) ∉ a.line := by
  have hk : 1 ≤ a.kind ∧ a.kind ≤ 18 := by simp only [Ap.ok, Bool.and_eq_true, decide_eq_true_eq] at h; omega
  unfold Ap.line
  rw [List.mem_append, not_or]
  exact ⟨(pure_kind _ (by omega)).2, pure_tail a.pure⟩
theorem setLine_pure (zs : List Int) : (10 : UInt8) ∉ setLine zs := by
  unfold setLine
  rw [List.mem_append, not_or]
  exact ⟨by decide, pure_tail (fun s hs => by obtain ⟨z, _, rfl⟩ := List.mem_map.1 hs; exact pure_itoa z)⟩
/-- A text that is not too large is its lines. -/
theorem text_lines : ∀ (as : List Ap) (t : List UInt8), (as.foldl addLine t).length ≤ 65536 → as.foldl addLine t = t ++ texts (as.map Ap.line)
  | [], t, _ => by simp [texts]
  | a :: r, t, h => by
    have hg := text_grows (addLine t a) r
    rw [List.foldl_cons] at h ⊢
    rw [text_lines r (addLine t a) h]
    by_cases ht : t.length ≤ 65536
    · simp [addLine, ht, texts]
    · exfalso
      have : addLine t a = t := by simp [addLine, ht]
      rw [this] at hg h
      omega
theorem script_lines {zs : List Int} {as : List Ap} (h : (scriptText zs as).length ≤ 65536) : scriptText zs as = texts (setLine zs :: as.map Ap.line) := by
  unfold scriptText at *
  rw [text_lines as _ h]
  simp [texts]
theorem readScript_lines {zs : List Int} {as : List Ap} (h10 : zs.length = 10) (hz : ∀ z ∈ zs, InI z) (ha : ∀ a ∈ as, a.wf ∧ a.ok = true) (hl : (texts (setLine zs :: as.map Ap.line)).length ≤ 65536) :
    readScript (texts (setLine zs :: as.map Ap.line)) = .ok zs as := by
  unfold readScript
  rw [if_neg (by omega)]
  have e := parts_texts (setLine zs :: as.map Ap.line) (fun l hl => by
    rcases List.mem_cons.1 hl with rfl | hl
    · exact setLine_pure zs
    · obtain ⟨a, ha', rfl⟩ := List.mem_map.1 hl
      exact Ap.line_pure (ha a ha').2) []
  rw [List.append_nil] at e
  rw [e]
  have hs := readSegs_ok as 2 [] ha
  rw [List.nil_append] at hs
  obtain ⟨m, t, e2⟩ : ∃ m t, as.map Ap.line ++ [[]] = m :: t := by
    cases as with
    | nil => exact ⟨_, _, rfl⟩
    | cons b r => exact ⟨_, _, rfl⟩
  rw [List.cons_append, show parts 10 [] = [[]] from rfl, e2, readParts, readSetting_line h10 hz]
  rw [e2] at hs
  simp only [hs]
/-- Cut off where a line ends: some of the first acts; elsewhere: none's. -/
theorem readScript_cut {zs : List Int} {as : List Ap} (h10 : zs.length = 10) (hz : ∀ z ∈ zs, InI z) (ha : ∀ a ∈ as, a.wf ∧ a.ok = true) (hl : (texts (setLine zs :: as.map Ap.line)).length ≤ 65536) (p r : List UInt8)
    (h : texts (setLine zs :: as.map Ap.line) = p ++ 10 :: r) : ∃ j, j ≤ as.length ∧ readScript (p ++ [10]) = .ok zs (as.take j) := by
  have hlen := congrArg List.length h
  rw [List.length_append, List.length_cons] at hlen
  have e := parts_texts (setLine zs :: as.map Ap.line) (fun l hl => by
    rcases List.mem_cons.1 hl with rfl | hl
    · exact setLine_pure zs
    · obtain ⟨a, ha', rfl⟩ := List.mem_map.1 hl
      exact Ap.line_pure (ha a ha').2) []
  rw [List.append_nil, h, parts_mid, show parts 10 [] = [[]] from rfl] at e
  obtain ⟨s, ps, hp⟩ : ∃ s ps, parts 10 p = s :: ps := by
    cases hp : parts 10 p with
    | nil => exact absurd hp (parts_ne _ _)
    | cons a b => exact ⟨a, b, rfl⟩
  have hr := parts_ne 10 r
  rw [hp, List.cons_append, List.cons_append] at e
  injection e with e1 e2
  have hps : ps.length ≤ as.length := by
    have := congrArg List.length e2
    simp only [List.length_append, List.length_map, List.length_cons, List.length_nil] at this
    have := List.length_pos_iff.2 hr
    omega
  have hpt : ps = (as.take ps.length).map Ap.line := by
    have := congrArg (List.take ps.length) e2
    rw [List.take_left, List.take_append_of_le_length (by simpa using hps)] at this
    rw [this, ← List.map_take]
    simp
  refine ⟨ps.length, hps, ?_⟩
  have hE : p ++ [10] = texts (setLine zs :: (as.take ps.length).map Ap.line) := by
    have back : ∀ (l : List UInt8) (s : List UInt8) (ws : List (List UInt8)), parts 10 l = s :: ws → l ++ [10] = texts (s :: ws) := by
      intro l
      induction l with
      | nil => intro s ws h; simp only [parts, List.cons.injEq] at h; obtain ⟨rfl, rfl⟩ := h; rfl
      | cons c l ih =>
        intro s ws h
        unfold parts at h
        split at h
        · rename_i hc
          injection h with h1 h2
          subst h1 hc
          obtain ⟨s', ws', e⟩ : ∃ s' ws', parts 10 l = s' :: ws' := by
            cases hp : parts 10 l with
            | nil => exact absurd hp (parts_ne _ _)
            | cons a b => exact ⟨a, b, rfl⟩
          have := ih s' ws' e
          rw [← h2, e, List.cons_append, this]
          simp [texts]
        · split at h
          · rename_i e; exact absurd e (parts_ne _ _)
          · rename_i w ws' e
            injection h with h1 h2
            subst h1 h2
            have := ih w ws' e
            rw [List.cons_append, this]
            simp [texts]
    rw [back p s ps hp, e1, ← hpt]
  rw [hE]
  exact readScript_lines h10 hz (fun a ha' => ha a (List.mem_of_mem_take ha')) (by rw [← hE]; simp; omega)
theorem parts_last : ∀ (l : List UInt8) (c : UInt8), c ≠ 10 → ∃ ls x, parts 10 (l ++ [c]) = ls ++ [x] ∧ x ≠ []
  | [], c, h => ⟨[], [c], by simp [parts, h], by simp⟩
  | d :: l, c, h => by
    obtain ⟨ls, x, e, hx⟩ := parts_last l c h
    rw [List.cons_append, parts, e]
    split
    · exact ⟨[] :: ls, x, rfl, hx⟩
    · cases ls with
      | nil => exact ⟨[], d :: x, by simp, by simp⟩
      | cons w ws => exact ⟨(d :: w) :: ws, x, by simp, hx⟩
theorem readScript_torn {l : List UInt8} {c : UInt8} (h : c ≠ 10) (hl : l.length < 65536) : ∃ j, readScript (l ++ [c]) = .bad j := by
  obtain ⟨ls, x, e, hx⟩ := parts_last l c h
  unfold readScript
  rw [if_neg (by simp; omega), e]
  match ls with
  | [] => exact ⟨1, rfl⟩
  | [s] =>
    rw [List.cons_append, List.nil_append, readParts]
    split
    · exact ⟨1, rfl⟩
    · obtain ⟨j, hj⟩ := readSegs_cut hx [] 2 []
      rw [List.nil_append] at hj
      rw [hj]
      exact ⟨j, rfl⟩
  | s :: s2 :: r =>
    rw [List.cons_append, List.cons_append, readParts]
    split
    · exact ⟨1, rfl⟩
    · obtain ⟨j, hj⟩ := readSegs_cut hx (s2 :: r) 2 []
      rw [List.cons_append] at hj
      rw [hj]
      exact ⟨j, rfl⟩
theorem readScript_nil : readScript [] = .bad 1 := rfl
/-- What a text read holds. -/
theorem readSegs_wf : ∀ (ls : List (List UInt8)) (k : Nat) (acc as : List Ap), (∀ a ∈ acc, a.wf ∧ a.ok = true) → readSegs k ls acc = .inl as → ∀ a ∈ as, a.wf ∧ a.ok = true
  | [], k, acc, as, _, h => by simp [readSegs] at h
  | [l], k, acc, as, ha, h => by
    unfold readSegs at h
    split at h
    · injection h with h; subst h; exact ha
    · cases h
  | l :: m :: r, k, acc, as, ha, h => by
    rw [readSegs] at h
    split at h
    · rename_i a e
      refine readSegs_wf (m :: r) (k + 1) (acc ++ [a]) as ?_ h
      intro x hx
      rcases List.mem_append.1 hx with hx | hx
      · exact ha x hx
      · rw [List.mem_singleton] at hx; subst hx; exact (readAct_some e).2
    · cases h
end Go.Proofs.YtcinohmhhglpjaaDoor
