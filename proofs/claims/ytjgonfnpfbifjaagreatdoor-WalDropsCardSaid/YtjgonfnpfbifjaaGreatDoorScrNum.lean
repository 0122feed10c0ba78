/- Plain: words, numbers as digits, an act's line, a setting's line, a script's text; what the reference's loops count. -/
import Derived.Lib.ItoaMem
namespace Go.Proofs.YtjgonfnpfbifjaaGreatDoor
open Go.Lib

/-- One word more, a blank ahead of it unless it is the first. -/
def addw (l s : List UInt8) : List UInt8 := if l = [] then s else l ++ 32 :: s
/-- Words, each with a blank ahead. -/
def tailw : List (List UInt8) → List UInt8
  | [] => []
  | s :: r => 32 :: (s ++ tailw r)
theorem tailw_append (a b : List (List UInt8)) : tailw (a ++ b) = tailw a ++ tailw b := by
  induction a with
  | nil => rfl
  | cons s r ih => simp [tailw, ih]
theorem addw_ne {l s : List UInt8} (h : l ≠ []) : addw l s = l ++ 32 :: s := if_neg h
theorem addw_nil (s : List UInt8) : addw [] s = s := rfl
theorem addw_tail {l s : List UInt8} (h : l ≠ []) (r : List (List UInt8)) : addw (l ++ tailw r) s = l ++ tailw (r ++ [s]) := by
  rw [addw_ne (by simp [h]), tailw_append]
  simp [tailw]
theorem addw_len (l s : List UInt8) : (addw l s).length ≤ l.length + s.length + 1 := by
  unfold addw
  split
  · omega
  · simp; omega
theorem tail_ne {l : List UInt8} (h : l ≠ []) (r : List (List UInt8)) : l ++ tailw r ≠ [] := by simp [h]

/-- A number without a sign, with one. -/
def udec (n : Int) : List UInt8 := decDigits n.toNat
theorem udec_nat (n : Nat) : udec (n : Int) = decDigits n := by simp [udec]
theorem nDigits_le {u : Nat} (h : u < 18446744073709551616) : nDigits u ≤ 20 := by
  by_cases h1 : 1 ≤ u
  · have := numDigits_eq u h1 h
    split at this <;> omega
  · rw [nDigits_small (by omega)]; omega
theorem udec_len {n : Int} (h1 : n ≤ 18446744073709551615) : (udec n).length ≤ 20 := by
  unfold udec
  rw [decDigits_length]
  exact nDigits_le (by omega)
theorem udec_ne (n : Int) : udec n ≠ [] := by
  intro h
  have := congrArg List.length h
  unfold udec at this
  rw [decDigits_length] at this
  have := nDigits_pos n.toNat
  simp at *
  omega
theorem itoa_len {n : Int} (h0 : -9223372036854775808 ≤ n) (h1 : n ≤ 9223372036854775807) : (itoa n).length ≤ 21 := by
  unfold itoa
  split
  · rw [List.length_cons, decDigits_length]
    have := nDigits_le (u := n.natAbs) (by omega)
    omega
  · rw [decDigits_length]
    have := nDigits_le (u := n.toNat) (by omega)
    omega

/-- A digit of sixteen. -/
def fig (n : Nat) : UInt8 := if n < 10 then UInt8.ofNat (48 + n) else UInt8.ofNat (87 + n)
def hexs : List UInt8 → List UInt8
  | [] => []
  | x :: r => fig (x.toNat / 16) :: fig (x.toNat % 16) :: hexs r
theorem hexs_append (a b : List UInt8) : hexs (a ++ b) = hexs a ++ hexs b := by
  induction a with
  | nil => rfl
  | cons x r ih => simp [hexs, ih]
theorem hexs_len (a : List UInt8) : (hexs a).length = 2 * a.length := by
  induction a with
  | nil => rfl
  | cons x r ih => simp [hexs, ih]; omega
theorem hexs_snoc (a : List UInt8) (x : UInt8) : hexs (a ++ [x]) = hexs a ++ [fig (x.toNat / 16), fig (x.toNat % 16)] := by rw [hexs_append]; rfl
def figures : List UInt8 := [48, 49, 50, 51, 52, 53, 54, 55, 56, 57, 97, 98, 99, 100, 101, 102]
theorem figures_at : ∀ n, n < 16 → figures[n]? = some (fig n) := by decide

/-- A command's fields. -/
structure Cm where
  ses : Int
  seq : Int
  op : Int
  key : List UInt8
  amount : Int
  span : Int
  lease : Int
structure Cm.wf (c : Cm) : Prop where
  ses0 : 0 ≤ c.ses
  ses1 : c.ses ≤ 18446744073709551615
  seq0 : 0 ≤ c.seq
  seq1 : c.seq ≤ 18446744073709551615
  op0 : -9223372036854775808 ≤ c.op
  op1 : c.op ≤ 9223372036854775807
  amt0 : -9223372036854775808 ≤ c.amount
  amt1 : c.amount ≤ 9223372036854775807
  span0 : -9223372036854775808 ≤ c.span
  span1 : c.span ≤ 9223372036854775807
  lease0 : 0 ≤ c.lease
  lease1 : c.lease ≤ 18446744073709551615
  keyl : c.key.length ≤ 140737488351232
def Cm.ok (c : Cm) : Bool := decide (c.key.length ≤ 64) && decide (0 ≤ c.op) && decide (c.op ≤ 5)
def Cm.words (c : Cm) : List (List UInt8) := [udec c.ses, udec c.seq, itoa c.op, 120 :: hexs c.key, itoa c.amount, itoa c.span, udec c.lease]
/-- An act's. -/
structure Ap where
  kind : Int
  a : Int
  b : Int
  n : Int
  draw : Int
  mask : Int
  cmd : Cm
structure Ap.wf (a : Ap) : Prop where
  kind0 : -9223372036854775808 ≤ a.kind
  kind1 : a.kind ≤ 9223372036854775807
  a0 : -9223372036854775808 ≤ a.a
  a1 : a.a ≤ 9223372036854775807
  b0 : -9223372036854775808 ≤ a.b
  b1 : a.b ≤ 9223372036854775807
  n0 : -9223372036854775808 ≤ a.n
  n1 : a.n ≤ 9223372036854775807
  draw0 : 0 ≤ a.draw
  draw1 : a.draw ≤ 18446744073709551615
  mask0 : 0 ≤ a.mask
  mask1 : a.mask ≤ 18446744073709551615
  cmd : a.cmd.wf
/-- The words of the kinds. -/
def kindWord : Nat → List UInt8
  | 1 => [116, 105, 99, 107]
  | 2 => [112, 97, 115, 115]
  | 3 => [115, 101, 110, 100]
  | 4 => [100, 114, 111, 112]
  | 5 => [116, 119, 105, 110]
  | 6 => [99, 117, 116]
  | 7 => [104, 101, 97, 108]
  | 8 => [102, 117, 115, 101]
  | 9 => [115, 116, 111, 112]
  | 10 => [115, 116, 97, 114, 116]
  | 11 => [97, 115, 107]
  | 12 => [108, 111, 111, 107]
  | 13 => [97, 103, 97, 105, 110]
  | 14 => [99, 111, 110, 102]
  | 15 => [103, 105, 118, 101]
  | 16 => [115, 104, 114, 105, 110, 107]
  | 17 => [97, 100, 109, 105, 116]
  | 18 => [114, 111, 111, 109]
  | _ => []
theorem kindWord_ne : ∀ n, 1 ≤ n → n ≤ 18 → kindWord n ≠ [] := by
  intro n h1 h2
  have : ∀ k, k < 19 → 1 ≤ k → kindWord k ≠ [] := by decide
  exact this n (by omega) h1
theorem kindWord_len : ∀ n, n ≤ 18 → (kindWord n).length ≤ 6 := by
  intro n h2
  have : ∀ k, k < 19 → (kindWord k).length ≤ 6 := by decide
  exact this n (by omega)
def Ap.ok (a : Ap) : Bool := decide (1 ≤ a.kind) && decide (a.kind ≤ 18) && a.cmd.ok
def Ap.line (a : Ap) : List UInt8 := kindWord a.kind.toNat ++ tailw ([itoa a.a, itoa a.b, itoa a.n, udec a.draw, udec a.mask] ++ a.cmd.words)
theorem Ap.line_ne {a : Ap} (h : a.ok = true) : a.line ≠ [] := by
  simp only [Ap.ok, Bool.and_eq_true, decide_eq_true_eq] at h
  exact tail_ne (kindWord_ne _ (by omega) (by omega)) _
theorem tailw_len : ∀ (r : List (List UInt8)) (k : Nat), (∀ s ∈ r, s.length ≤ k) → (tailw r).length ≤ r.length * (k + 1)
  | [], _, _ => by simp [tailw]
  | s :: r, k, h => by
    have := tailw_len r k (fun x hx => h x (List.mem_cons_of_mem _ hx))
    have := h s (List.mem_cons_self ..)
    simp only [tailw, List.length_cons, List.length_append, Nat.add_mul, Nat.one_mul]
    omega
theorem Cm.words_len {c : Cm} (hc : c.wf) (hk : c.key.length ≤ 64) : ∀ s ∈ c.words, s.length ≤ 129 := by
  intro s hs
  simp only [Cm.words, List.mem_cons, List.not_mem_nil, or_false] at hs
  obtain ⟨h1, h2, h3, h4, h5, h6, h7, h8, h9, h10, h11, h12, _⟩ := hc
  rcases hs with rfl | rfl | rfl | rfl | rfl | rfl | rfl
  · have := udec_len h2; omega
  · have := udec_len h4; omega
  · have := itoa_len h5 h6; omega
  · rw [List.length_cons, hexs_len]; omega
  · have := itoa_len h7 h8; omega
  · have := itoa_len h9 h10; omega
  · have := udec_len h12; omega
theorem Ap.line_len {a : Ap} (ha : a.wf) (h : a.ok = true) : a.line.length ≤ 1600 := by
  have hk : a.cmd.key.length ≤ 64 ∧ 1 ≤ a.kind ∧ a.kind ≤ 18 := by
    simp only [Ap.ok, Cm.ok, Bool.and_eq_true, decide_eq_true_eq] at h
    omega
  have h1 := Cm.words_len ha.cmd hk.1
  have h2 := tailw_len ([itoa a.a, itoa a.b, itoa a.n, udec a.draw, udec a.mask] ++ a.cmd.words) 129 (by
    intro s hs
    rcases List.mem_append.1 hs with hs | hs
    · simp only [List.mem_cons, List.not_mem_nil, or_false] at hs
      rcases hs with rfl | rfl | rfl | rfl | rfl
      · have := itoa_len ha.a0 ha.a1; omega
      · have := itoa_len ha.b0 ha.b1; omega
      · have := itoa_len ha.n0 ha.n1; omega
      · have := udec_len ha.draw1; omega
      · have := udec_len ha.mask1; omega
    · exact h1 s hs)
  have h3 := kindWord_len a.kind.toNat (by omega)
  unfold Ap.line
  rw [List.length_append]
  simp only [List.length_append, List.length_cons, List.length_nil, Cm.words] at h2 ⊢
  omega

/-- A setting's fields, all with a sign. -/
def setWord : List UInt8 := [115, 101, 116, 116, 105, 110, 103]
def setLine (zs : List Int) : List UInt8 := setWord ++ tailw (zs.map itoa)

/-- A script's text, as far as the acts are sound and there is room: the text so far, an act more. -/
def addLine (t : List UInt8) (a : Ap) : List UInt8 := if t.length ≤ 65536 then t ++ a.line ++ [10] else t
def scriptText (zs : List Int) (as : List Ap) : List UInt8 := as.foldl addLine (setLine zs ++ [10])
def scriptSays (zs : List Int) (as : List Ap) : List UInt8 × Int :=
  if as.all Ap.ok then (if as.length ≤ 65536 ∧ (scriptText zs as).length ≤ 65536 then (scriptText zs as, 0) else ([], 7)) else ([], 2)
theorem foldl_snoc {α β : Type} (f : β → α → β) (l : List α) (x : α) (b : β) : (l ++ [x]).foldl f b = f (l.foldl f b) x := by simp
theorem addLine_ne {t : List UInt8} (h : t ≠ []) (a : Ap) : addLine t a ≠ [] := by
  unfold addLine
  split <;> simp [h]
theorem text_ne {t : List UInt8} (h : t ≠ []) : ∀ (as : List Ap), as.foldl addLine t ≠ []
  | [] => h
  | a :: r => text_ne (addLine_ne h a) r
theorem addLine_len {t : List UInt8} {a : Ap} (ha : a.wf) (ho : a.ok = true) (h : t.length ≤ 67200) : (addLine t a).length ≤ 67200 := by
  unfold addLine
  have := Ap.line_len ha ho
  split
  · simp only [List.length_append, List.length_cons, List.length_nil]; omega
  · omega
theorem text_len {t : List UInt8} (h : t.length ≤ 67200) : ∀ (as : List Ap), (∀ a ∈ as, a.wf ∧ a.ok = true) → (as.foldl addLine t).length ≤ 67200
  | [], _ => h
  | a :: r, hw => text_len (addLine_len (hw a (List.mem_cons_self ..)).1 (hw a (List.mem_cons_self ..)).2 h) r fun x hx => hw x (List.mem_cons_of_mem _ hx)
theorem text_grows (t : List UInt8) : ∀ (as : List Ap), t.length ≤ (as.foldl addLine t).length
  | [] => Nat.le_refl _
  | a :: r => Nat.le_trans (by unfold addLine; split <;> simp <;> omega) (text_grows (addLine t a) r)
theorem set_len {zs : List Int} (h10 : zs.length = 10) (h : ∀ z ∈ zs, -9223372036854775808 ≤ z ∧ z ≤ 9223372036854775807) : (setLine zs).length ≤ 300 := by
  have := tailw_len (zs.map itoa) 21 (by
    intro s hs
    obtain ⟨z, hz, rfl⟩ := List.mem_map.1 hs
    exact itoa_len (h z hz).1 (h z hz).2)
  unfold setLine setWord
  simp only [List.length_append, List.length_map, List.length_cons, List.length_nil] at this ⊢
  omega

/-- The reference's loop: 's' holds the digits from some place on; 'n' is what is left. -/
theorem dec_step {u : Nat} (h : ¬ u < 10) : decDigits u = decDigits (u / 10) ++ [UInt8.ofNat (48 + u % 10)] := by rw [decDigits, dif_neg h]

/-- Words, one behind the other. -/
def addws (l : List UInt8) (ss : List (List UInt8)) : List UInt8 := ss.foldl addw l
theorem addws_nil (l : List UInt8) : addws l [] = l := rfl
theorem addws_cons (l s : List UInt8) (r : List (List UInt8)) : addws l (s :: r) = addws (addw l s) r := rfl
theorem addws_snoc (l s : List UInt8) (r : List (List UInt8)) : addws l (r ++ [s]) = addw (addws l r) s := by simp [addws]
theorem addws_append (l : List UInt8) (r t : List (List UInt8)) : addws l (r ++ t) = addws (addws l r) t := by simp [addws]
theorem addws_tail {l : List UInt8} (h : l ≠ []) : ∀ (r : List (List UInt8)), addws l r = l ++ tailw r
  | [] => by simp [addws, tailw]
  | s :: r => by
    rw [addws_cons, addw_ne h, addws_tail (by simp)]
    simp [tailw]
theorem addws_len {k : Nat} : ∀ (r : List (List UInt8)) (l : List UInt8), (∀ s ∈ r, s.length ≤ k) → (addws l r).length ≤ l.length + r.length * (k + 1)
  | [], l, _ => by simp [addws]
  | s :: r, l, h => by
    have h1 := addws_len r (addw l s) (fun x hx => h x (List.mem_cons_of_mem _ hx))
    have h2 := addw_len l s
    have h3 := h s (List.mem_cons_self ..)
    rw [addws_cons]
    simp only [List.length_cons, Nat.add_mul, Nat.one_mul] at *
    omega
theorem addws_ne {l : List UInt8} (h : l ≠ []) (r : List (List UInt8)) : addws l r ≠ [] := by rw [addws_tail h]; exact tail_ne h r
end Go.Proofs.YtjgonfnpfbifjaaGreatDoor
