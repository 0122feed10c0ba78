/- Plain: a line's words, read one after the other: numbers, keys, acts, calls, settings; what is written is read as it was. -/
import Derived.Test.YtjgonfnpfbifjaaGreatDoorScrNum
import Derived.Lib.ParseIntBCases
import Derived.Lib.Split
namespace Go.Proofs.YtjgonfnpfbifjaaGreatDoor
open Go.Lib

/-- What stands between the marks. -/
def parts (b : UInt8) : List UInt8 → List (List UInt8)
  | [] => [[]]
  | c :: r => if c = b then [] :: parts b r else match parts b r with
    | [] => [[c]]
    | w :: ws => (c :: w) :: ws
theorem parts_ne (b : UInt8) : ∀ l, parts b l ≠ []
  | [] => by simp [parts]
  | c :: r => by
    unfold parts
    split
    · simp
    · split <;> simp
theorem parts_no {b : UInt8} : ∀ {l : List UInt8}, b ∉ l → parts b l = [l]
  | [], _ => rfl
  | c :: r, h => by
    rw [List.mem_cons, not_or] at h
    rw [parts, if_neg (fun e => h.1 e.symm), parts_no h.2]
theorem parts_step {b : UInt8} : ∀ {l : List UInt8}, b ∉ l → ∀ r, parts b (l ++ b :: r) = l :: parts b r
  | [], _, r => by rw [List.nil_append, parts, if_pos rfl]
  | c :: l, h, r => by
    rw [List.mem_cons, not_or] at h
    rw [List.cons_append, parts, if_neg (fun e => h.1 e.symm), parts_step h.2]
theorem parts_tail : ∀ {ws : List (List UInt8)} {l : List UInt8}, (32 : UInt8) ∉ l → (∀ s ∈ ws, (32 : UInt8) ∉ s) → parts 32 (l ++ tailw ws) = l :: ws
  | [], l, h, _ => by rw [tailw, List.append_nil, parts_no h]
  | s :: ws, l, h, hs => by
    rw [tailw, parts_step h, parts_tail (hs s (List.mem_cons_self ..)) (fun x hx => hs x (List.mem_cons_of_mem _ hx))]
theorem parts_count (b : UInt8) : ∀ l, (parts b l).length = l.count b + 1
  | [] => rfl
  | c :: r => by
    unfold parts
    have ih := parts_count b r
    split
    · rename_i h; subst h; simp [ih]
    · rename_i h
      have hc : (c :: r).count b = r.count b := by rw [List.count_cons]; simp [h]
      split
      · rename_i e; rw [e] at ih; simp at ih
      · rename_i w ws e; rw [e] at ih; rw [hc]; simpa using ih
theorem parts_len (b : UInt8) : ∀ (l : List UInt8), ∀ s ∈ parts b l, s.length ≤ l.length
  | [], s, h => by simp [parts] at h; simp [h]
  | c :: r, s, h => by
    unfold parts at h
    have ih := parts_len b r
    split at h
    · rcases List.mem_cons.1 h with rfl | h
      · simp
      · have := ih s h; simp; omega
    · split at h
      · rename_i e; exact absurd e (parts_ne b r)
      · rename_i w ws e
        rw [e] at ih
        rcases List.mem_cons.1 h with rfl | h
        · have := ih w (List.mem_cons_self ..); simp; omega
        · have := ih s (List.mem_cons_of_mem _ h); simp; omega
theorem split_mem {b : UInt8} : ∀ {l : List UInt8}, b ∈ l → ∃ p r, l = p ++ b :: r ∧ b ∉ p
  | c :: l, h => by
    by_cases e : c = b
    · exact ⟨[], l, by rw [e]; rfl, by simp⟩
    · rcases List.mem_cons.1 h with h' | h'
      · exact absurd h'.symm e
      · obtain ⟨p, r, h1, h2⟩ := split_mem h'
        exact ⟨c :: p, r, by rw [h1]; rfl, by rw [List.mem_cons, not_or]; exact ⟨fun x => e x.symm, h2⟩⟩
theorem index_no {b : UInt8} : ∀ {l : List UInt8}, b ∉ l → index l [b] = -1
  | [], _ => rfl
  | c :: l, h => by
    rw [List.mem_cons, not_or] at h
    unfold index
    have hb : ([b] : List UInt8).isPrefixOf (c :: l) = false := by
      simp only [List.isPrefixOf, Bool.and_true]
      exact beq_eq_false_iff_ne.2 h.1
    rw [hb, index_no h.2]
    rfl
theorem index_at {b : UInt8} : ∀ {p : List UInt8} (r : List UInt8), b ∉ p → index (p ++ b :: r) [b] = (p.length : Int)
  | [], r, _ => by unfold index; simp
  | c :: p, r, h => by
    rw [List.mem_cons, not_or] at h
    rw [List.cons_append]
    unfold index
    have hb : ([b] : List UInt8).isPrefixOf (c :: (p ++ b :: r)) = false := by
      simp only [List.isPrefixOf, Bool.and_true]
      exact beq_eq_false_iff_ne.2 h.1
    rw [hb, index_at r h.2]
    simp only [Bool.false_eq_true, if_false]
    rw [if_neg (by simp)]
    simp
theorem splitK_parts (b : UInt8) : ∀ (n : Nat) (l : List UInt8), l.length ≤ n → splitK [b] 0 (count l [b]) l = parts b l ∧ count l [b] = l.count b
  | 0, l, h => by
    have : l = [] := List.eq_nil_of_length_eq_zero (by omega)
    subst this
    exact ⟨rfl, rfl⟩
  | n + 1, l, h => by
    by_cases hm : b ∈ l
    · obtain ⟨p, r, rfl, hp⟩ := split_mem hm
      have hi := index_at r hp
      have hd : (p ++ b :: r).drop (p.length + 1) = r := by rw [List.drop_append]; simp
      have hc := count_hit (s := p ++ b :: r) (sub := [b]) (by simp) hi
      simp only [List.length_cons, List.length_nil, Nat.zero_add] at hc
      rw [hd] at hc
      obtain ⟨i1, i2⟩ := splitK_parts b n r (by simp at h; omega)
      have hcp : p.count b = 0 := List.count_eq_zero.2 hp
      refine ⟨?_, ?_⟩
      · rw [hc, Nat.add_comm 1, splitK, hi, if_neg (by simp), parts_step hp]
        simp only [Int.toNat_natCast, List.length_cons, List.length_nil, Nat.zero_add, Nat.add_zero]
        rw [hd, i1, List.take_left]
      · rw [hc, i2, List.count_append, List.count_cons_self, hcp]
        omega
    · have hi := index_no hm
      have hc := count_miss hi
      refine ⟨?_, by rw [hc, List.count_eq_zero.2 hm]⟩
      rw [hc, splitK, parts_no hm]

/-- Numbers. -/
def pnum (l : List UInt8) : Option Int := match parseUintB 64 l with
  | .ok u => if decDigits u = l then some (u : Int) else none
  | _ => none
def pint (l : List UInt8) : Option Int := match parseIntB 64 l with
  | .ok v => if itoa v = l then some v else none
  | _ => none
theorem parseM_append (M : Nat) : ∀ (l : List UInt8) (acc u : Nat) (r : List UInt8), parseUintM M acc l = .ok u → parseUintM M acc (l ++ r) = parseUintM M u r
  | [], acc, u, r, h => by
    simp only [parseUintM] at h
    injection h with h
    rw [List.nil_append, h]
  | c :: l, acc, u, r, h => by
    rw [List.cons_append]
    simp only [parseUintM] at h ⊢
    split at h
    · rename_i hc
      rw [if_pos hc]
      split at h
      · cases h
      · rename_i h2
        rw [if_neg h2]
        split at h
        · cases h
        · rename_i h3
          rw [if_neg h3]
          exact parseM_append M l _ u r h
    · cases h
theorem parse_dec : ∀ (n u : Nat), u ≤ n → u ≤ 18446744073709551615 → parseUintM 18446744073709551615 0 (decDigits u) = .ok u
  | n, u, hn, h => by
    by_cases h10 : u < 10
    · rw [decDigits, dif_pos h10]
      have e : (UInt8.ofNat (48 + u)).toNat = 48 + u := by rw [UInt8.toNat_ofNat']; omega
      simp only [parseUintM, e]
      rw [if_pos (by omega), if_neg (by omega), if_neg (by omega)]
      congr 1
      omega
    · match n with
      | 0 => omega
      | n + 1 =>
        rw [dec_step h10, parseM_append _ _ _ _ _ (parse_dec n (u / 10) (by omega) (by omega))]
        have e : (UInt8.ofNat (48 + u % 10)).toNat = 48 + u % 10 := by rw [UInt8.toNat_ofNat']; omega
        simp only [parseUintM, e]
        rw [if_pos (by omega), if_neg (by omega), if_neg (by omega)]
        congr 1
        omega
theorem dec_ne (u : Nat) : decDigits u ≠ [] := by
  intro h
  have := congrArg List.length h
  rw [decDigits_length] at this
  have := nDigits_pos u
  simp at *
  omega
theorem parseB_dec {u : Nat} (h : u ≤ 18446744073709551615) : parseUintB 64 (decDigits u) = .ok u := by
  unfold parseUintB
  rw [if_neg (dec_ne u), show (2 : Nat) ^ 64 - 1 = 18446744073709551615 by decide]
  exact parse_dec u u (Nat.le_refl _) h
theorem pnum_udec {n : Int} (h0 : 0 ≤ n) (h1 : n ≤ 18446744073709551615) : pnum (udec n) = some n := by
  obtain ⟨u, rfl⟩ := Int.eq_ofNat_of_zero_le h0
  unfold pnum
  rw [udec_nat, parseB_dec (by omega)]
  simp
theorem pnum_some {l : List UInt8} {n : Int} (h : pnum l = some n) : udec n = l ∧ 0 ≤ n ∧ n ≤ 18446744073709551615 := by
  unfold pnum at h
  split at h
  · rename_i u hu
    split at h
    · rename_i hd
      injection h with h
      subst h
      have := parseUintB_le hu
      rw [show (2 : Nat) ^ 64 - 1 = 18446744073709551615 by decide] at this
      exact ⟨by rw [udec_nat, hd], by omega, by omega⟩
    · cases h
  · cases h
theorem dec_head (u : Nat) : ∃ c r, decDigits u = c :: r ∧ 48 ≤ c.toNat ∧ c.toNat ≤ 57 := by
  induction u using Nat.strongRecOn with
  | _ u ih =>
    by_cases h10 : u < 10
    · refine ⟨_, [], by rw [decDigits, dif_pos h10], ?_⟩
      rw [UInt8.toNat_ofNat']
      omega
    · obtain ⟨c, r, h1, h2⟩ := ih (u / 10) (by omega)
      exact ⟨c, _, by rw [dec_step h10, h1]; rfl, h2⟩
theorem parseInt_dec {u : Nat} (h : u ≤ 9223372036854775807) : parseIntB 64 (decDigits u) = .ok (u : Int) := by
  obtain ⟨c, r, h1, h2, h3⟩ := dec_head u
  have hp := parseB_dec (u := u) (by omega)
  rw [h1] at hp ⊢
  unfold parseIntB
  simp only
  rw [if_neg (by omega), hp]
  simp only
  rw [if_neg (by simp; omega), if_neg (by omega), if_neg (by omega)]
theorem parseInt_neg {u : Nat} (h : u ≤ 9223372036854775808) : parseIntB 64 (45 :: decDigits u) = .ok (-(u : Int)) := by
  have hp := parseB_dec (u := u) (by omega)
  unfold parseIntB
  simp only
  rw [if_pos (by decide), hp]
  simp only
  rw [if_neg (by simp), if_neg (by simp; omega), if_pos (by decide)]
theorem parseInt_itoa {n : Int} (h0 : -9223372036854775808 ≤ n) (h1 : n ≤ 9223372036854775807) : parseIntB 64 (itoa n) = .ok n := by
  unfold itoa
  split
  · rw [parseInt_neg (by omega)]
    congr 1
    omega
  · rw [parseInt_dec (by omega)]
    congr 1
    omega
theorem pint_itoa {n : Int} (h0 : -9223372036854775808 ≤ n) (h1 : n ≤ 9223372036854775807) : pint (itoa n) = some n := by
  unfold pint
  rw [parseInt_itoa h0 h1]
  simp
theorem parseIntB_in {l : List UInt8} {v : Int} (h : parseIntB 64 l = .ok v) : -9223372036854775808 ≤ v ∧ v ≤ 9223372036854775807 := by
  unfold parseIntB at h
  split at h
  · cases h
  · simp only at h
    split at h
    · cases h
    · cases h
    · split at h
      · cases h
      · split at h
        · cases h
        · injection h with h
          subst h
          split <;> rename_i h1 h2 h3 <;> simp only [h3, not_true_eq_false, not_false_eq_true, true_and, false_and] at h1 h2 <;> omega
theorem pint_some {l : List UInt8} {n : Int} (h : pint l = some n) : itoa n = l ∧ -9223372036854775808 ≤ n ∧ n ≤ 9223372036854775807 := by
  unfold pint at h
  split at h
  · rename_i v hv
    split at h
    · rename_i hd
      injection h with h
      subst h
      exact ⟨hd, parseIntB_in hv⟩
    · cases h
  · cases h

/-- Keys. -/
def unfig (c : UInt8) : Option Nat := if 48 ≤ c.toNat ∧ c.toNat ≤ 57 then some (c.toNat - 48) else if 97 ≤ c.toNat ∧ c.toNat ≤ 102 then some (c.toNat - 87) else none
theorem unfig_lt {c : UInt8} {n : Nat} (h : unfig c = some n) : n < 16 ∧ fig n = c := by
  unfold unfig at h
  split at h
  · injection h with h
    subst h
    refine ⟨by omega, ?_⟩
    unfold fig
    rw [if_pos (by omega)]
    apply UInt8.toNat_inj.1
    rw [UInt8.toNat_ofNat']
    omega
  · split at h
    · injection h with h
      subst h
      refine ⟨by omega, ?_⟩
      unfold fig
      rw [if_neg (by omega)]
      apply UInt8.toNat_inj.1
      rw [UInt8.toNat_ofNat']
      omega
    · cases h
theorem unfig_fig : ∀ n, n < 16 → unfig (fig n) = some n := by decide
def unhex : List UInt8 → Option (List UInt8)
  | [] => some []
  | [_] => none
  | a :: b :: r => match unfig a, unfig b, unhex r with
    | some x, some y, some t => some (UInt8.ofNat (16 * x + y) :: t)
    | _, _, _ => none
theorem unhex_hexs : ∀ l, unhex (hexs l) = some l
  | [] => rfl
  | x :: r => by
    have hx := x.toNat_lt
    rw [hexs, unhex, unfig_fig _ (by omega), unfig_fig _ (by omega), unhex_hexs r]
    simp only [Option.some.injEq, List.cons.injEq, and_true]
    apply UInt8.toNat_inj.1
    rw [UInt8.toNat_ofNat']
    omega
theorem unhex_some : ∀ {s l : List UInt8}, unhex s = some l → hexs l = s
  | [], l, h => by
    simp only [unhex, Option.some.injEq] at h
    subst h
    rfl
  | [_], l, h => by simp [unhex] at h
  | a :: b :: r, l, h => by
    rw [unhex] at h
    split at h
    · rename_i x y t h1 h2 h3
      injection h with h
      subst h
      obtain ⟨x1, x2⟩ := unfig_lt h1
      obtain ⟨y1, y2⟩ := unfig_lt h2
      have e : (UInt8.ofNat (16 * x + y)).toNat = 16 * x + y := by rw [UInt8.toNat_ofNat']; omega
      rw [hexs, e, unhex_some h3, show (16 * x + y) / 16 = x by omega, show (16 * x + y) % 16 = y by omega, x2, y2]
    · cases h
def pkey (l : List UInt8) : Option (List UInt8) := match l with
  | [] => none
  | c :: r => if c = 120 then match unhex r with
      | some k => if k.length ≤ 64 then some k else none
      | none => none
    else none
theorem pkey_hexs {k : List UInt8} (h : k.length ≤ 64) : pkey (120 :: hexs k) = some k := by
  simp only [pkey, if_true, unhex_hexs, if_pos h]
theorem pkey_some {l k : List UInt8} (h : pkey l = some k) : 120 :: hexs k = l ∧ k.length ≤ 64 := by
  unfold pkey at h
  split at h
  · cases h
  · split at h
    · rename_i hc
      split at h
      · rename_i k' hk
        split at h
        · injection h with h
          subst h
          exact ⟨by rw [unhex_some hk, hc], ‹_›⟩
        · cases h
      · cases h
    · cases h

/-- A reader: what is left of the words. -/
abbrev Rd (α : Type) := List (List UInt8) → Option (α × List (List UInt8))
def rd {α : Type} (p : List UInt8 → Option α) : Rd α
  | [] => none
  | s :: r => match p s with
    | some x => some (x, r)
    | none => none
def Rd.bind {α β : Type} (m : Rd α) (f : α → Rd β) : Rd β := fun l => match m l with
  | some (x, r) => f x r
  | none => none
def Rd.ret {α : Type} (x : α) : Rd α := fun l => some (x, l)
def Rd.need (b : Bool) : Rd Unit := fun l => if b then some ((), l) else none
theorem rd_cons {α : Type} {p : List UInt8 → Option α} {s : List UInt8} {x : α} (h : p s = some x) (r : List (List UInt8)) : rd p (s :: r) = some (x, r) := by simp [rd, h]
theorem Rd.bind_some {α β : Type} {m : Rd α} {f : α → Rd β} {l r : List (List UInt8)} {x : α} (h : m l = some (x, r)) : Rd.bind m f l = f x r := by simp [Rd.bind, h]
theorem Rd.bind_none {α β : Type} {m : Rd α} {f : α → Rd β} {l : List (List UInt8)} (h : m l = none) : Rd.bind m f l = none := by simp [Rd.bind, h]
theorem Rd.bind_eq {α β : Type} {m : Rd α} {f : α → Rd β} {l r : List (List UInt8)} {y : β} (h : Rd.bind m f l = some (y, r)) : ∃ x t, m l = some (x, t) ∧ f x t = some (y, r) := by
  unfold Rd.bind at h
  split at h
  · rename_i x t e; exact ⟨x, t, e, h⟩
  · cases h
theorem rd_eq {α : Type} {p : List UInt8 → Option α} {l r : List (List UInt8)} {x : α} (h : rd p l = some (x, r)) : ∃ s, l = s :: r ∧ p s = some x := by
  unfold rd at h
  split at h
  · cases h
  · split at h
    · rename_i y e
      injection h with h
      injection h with h1 h2
      subst h1 h2
      exact ⟨_, rfl, e⟩
    · cases h

/-- A command's words, read. -/
def rdCmd : Rd Cm :=
  Rd.bind (rd pnum) fun ses => Rd.bind (rd pnum) fun seq => Rd.bind (rd pint) fun op => Rd.bind (rd pkey) fun key => Rd.bind (rd pint) fun amount => Rd.bind (rd pint) fun span => Rd.bind (rd pnum) fun lease =>
  Rd.bind (Rd.need (Cm.ok ⟨ses, seq, op, key, amount, span, lease⟩)) fun _ => Rd.ret ⟨ses, seq, op, key, amount, span, lease⟩
theorem rdCmd_words {c : Cm} (hc : c.wf) (ho : c.ok = true) (r : List (List UInt8)) : rdCmd (c.words ++ r) = some (c, r) := by
  obtain ⟨h1, h2, h3, h4, h5, h6, h7, h8, h9, h10, h11, h12, h13⟩ := hc
  have hk : c.key.length ≤ 64 := by simp only [Cm.ok, Bool.and_eq_true, decide_eq_true_eq] at ho; omega
  unfold rdCmd Cm.words
  simp only [List.cons_append, List.nil_append]
  rw [Rd.bind_some (rd_cons (pnum_udec h1 h2) _), Rd.bind_some (rd_cons (pnum_udec h3 h4) _), Rd.bind_some (rd_cons (pint_itoa h5 h6) _), Rd.bind_some (rd_cons (pkey_hexs hk) _), Rd.bind_some (rd_cons (pint_itoa h7 h8) _), Rd.bind_some (rd_cons (pint_itoa h9 h10) _), Rd.bind_some (rd_cons (pnum_udec h11 h12) _)]
  have e : Cm.mk c.ses c.seq c.op c.key c.amount c.span c.lease = c := rfl
  rw [e, Rd.bind_some (show Rd.need c.ok r = some ((), r) by simp [Rd.need, ho])]
  rfl
theorem rdCmd_some {l r : List (List UInt8)} {c : Cm} (h : rdCmd l = some (c, r)) : l = c.words ++ r ∧ c.wf ∧ c.ok = true := by
  unfold rdCmd at h
  obtain ⟨x1, t1, e1, h⟩ := Rd.bind_eq h
  obtain ⟨x2, t2, e2, h⟩ := Rd.bind_eq h
  obtain ⟨x3, t3, e3, h⟩ := Rd.bind_eq h
  obtain ⟨x4, t4, e4, h⟩ := Rd.bind_eq h
  obtain ⟨x5, t5, e5, h⟩ := Rd.bind_eq h
  obtain ⟨x6, t6, e6, h⟩ := Rd.bind_eq h
  obtain ⟨x7, t7, e7, h⟩ := Rd.bind_eq h
  obtain ⟨_, t8, e8, h⟩ := Rd.bind_eq h
  obtain ⟨s1, rfl, q1⟩ := rd_eq e1
  obtain ⟨s2, rfl, q2⟩ := rd_eq e2
  obtain ⟨s3, rfl, q3⟩ := rd_eq e3
  obtain ⟨s4, rfl, q4⟩ := rd_eq e4
  obtain ⟨s5, rfl, q5⟩ := rd_eq e5
  obtain ⟨s6, rfl, q6⟩ := rd_eq e6
  obtain ⟨s7, rfl, q7⟩ := rd_eq e7
  unfold Rd.need at e8
  split at e8
  · rename_i hok
    injection e8 with e8
    injection e8 with _ e8
    subst e8
    unfold Rd.ret at h
    injection h with h
    injection h with h1 h2
    subst h1 h2
    obtain ⟨a1, b1, c1⟩ := pnum_some q1
    obtain ⟨a2, b2, c2⟩ := pnum_some q2
    obtain ⟨a3, b3, c3⟩ := pint_some q3
    obtain ⟨a4, b4⟩ := pkey_some q4
    obtain ⟨a5, b5, c5⟩ := pint_some q5
    obtain ⟨a6, b6, c6⟩ := pint_some q6
    obtain ⟨a7, b7, c7⟩ := pnum_some q7
    exact ⟨by simp [Cm.words, a1, a2, a3, a4, a5, a6, a7], ⟨b1, c1, b2, c2, b3, c3, b5, c5, b6, c6, b7, c7, by show x4.length ≤ _; omega⟩, hok⟩
  · cases e8
/-- The kind that a word is. -/
def kindOf (s : List UInt8) : Option Int := ((List.range 18).find? fun k => decide (kindWord (k + 1) = s)).map fun k => ((k + 1 : Nat) : Int)
theorem kindOf_word : ∀ n, 1 ≤ n → n ≤ 18 → kindOf (kindWord n) = some (n : Int) := by
  intro n h1 h2
  have : ∀ k, k < 19 → 1 ≤ k → kindOf (kindWord k) = some (k : Int) := by decide
  exact this n (by omega) h1
theorem kindOf_some {s : List UInt8} {k : Int} (h : kindOf s = some k) : 1 ≤ k ∧ k ≤ 18 ∧ kindWord k.toNat = s := by
  unfold kindOf at h
  obtain ⟨j, hj, rfl⟩ := Option.map_eq_some_iff.1 h
  have h1 := List.mem_of_find?_eq_some hj
  have h2 := List.find?_some hj
  rw [List.mem_range] at h1
  exact ⟨by omega, by omega, by simpa using h2⟩
/-- An act's line, read. -/
def rdAct : Rd Ap :=
  Rd.bind (rd kindOf) fun kind => Rd.bind (rd pint) fun a => Rd.bind (rd pint) fun b => Rd.bind (rd pint) fun n => Rd.bind (rd pnum) fun draw => Rd.bind (rd pnum) fun mask => Rd.bind rdCmd fun cmd => Rd.ret ⟨kind, a, b, n, draw, mask, cmd⟩
def whole {α : Type} (m : Rd α) (l : List UInt8) : Option α := match m (parts 32 l) with
  | some (x, []) => some x
  | _ => none
theorem whole_some {α : Type} {m : Rd α} {l : List UInt8} {x : α} (h : whole m l = some x) : m (parts 32 l) = some (x, []) := by
  unfold whole at h
  split at h
  · rename_i y e; injection h with h; subst h; exact e
  · cases h
def readAct (l : List UInt8) : Option Ap := whole rdAct l
theorem rdAct_words {a : Ap} (ha : a.wf) (ho : a.ok = true) (r : List (List UInt8)) : rdAct (kindWord a.kind.toNat :: ([itoa a.a, itoa a.b, itoa a.n, udec a.draw, udec a.mask] ++ a.cmd.words) ++ r) = some (a, r) := by
  simp only [Ap.ok, Bool.and_eq_true, decide_eq_true_eq] at ho
  obtain ⟨⟨k1, k2⟩, k3⟩ := ho
  obtain ⟨h1, h2, h3, h4, h5, h6, h7, h8, h9, h10, h11, h12, h13⟩ := ha
  have hk := kindOf_word a.kind.toNat (by omega) (by omega)
  rw [show ((a.kind.toNat : Nat) : Int) = a.kind by omega] at hk
  unfold rdAct
  simp only [List.cons_append, List.nil_append]
  rw [Rd.bind_some (rd_cons hk _), Rd.bind_some (rd_cons (pint_itoa h3 h4) _), Rd.bind_some (rd_cons (pint_itoa h5 h6) _), Rd.bind_some (rd_cons (pint_itoa h7 h8) _), Rd.bind_some (rd_cons (pnum_udec h9 h10) _), Rd.bind_some (rd_cons (pnum_udec h11 h12) _), Rd.bind_some (rdCmd_words h13 k3 r)]
  rfl
theorem rdAct_some {l r : List (List UInt8)} {a : Ap} (h : rdAct l = some (a, r)) : l = kindWord a.kind.toNat :: ([itoa a.a, itoa a.b, itoa a.n, udec a.draw, udec a.mask] ++ a.cmd.words) ++ r ∧ a.wf ∧ a.ok = true := by
  unfold rdAct at h
  obtain ⟨x1, t1, e1, h⟩ := Rd.bind_eq h
  obtain ⟨x2, t2, e2, h⟩ := Rd.bind_eq h
  obtain ⟨x3, t3, e3, h⟩ := Rd.bind_eq h
  obtain ⟨x4, t4, e4, h⟩ := Rd.bind_eq h
  obtain ⟨x5, t5, e5, h⟩ := Rd.bind_eq h
  obtain ⟨x6, t6, e6, h⟩ := Rd.bind_eq h
  obtain ⟨x7, t7, e7, hz⟩ := Rd.bind_eq h
  obtain ⟨s1, rfl, q1⟩ := rd_eq e1
  obtain ⟨s2, rfl, q2⟩ := rd_eq e2
  obtain ⟨s3, rfl, q3⟩ := rd_eq e3
  obtain ⟨s4, rfl, q4⟩ := rd_eq e4
  obtain ⟨s5, rfl, q5⟩ := rd_eq e5
  obtain ⟨s6, rfl, q6⟩ := rd_eq e6
  obtain ⟨rfl, w7, o7⟩ := rdCmd_some e7
  unfold Rd.ret at hz
  injection hz with hz
  injection hz with h1 h2
  subst h1 h2
  obtain ⟨a1, b1, c1⟩ := kindOf_some q1
  obtain ⟨a2, b2, c2⟩ := pint_some q2
  obtain ⟨a3, b3, c3⟩ := pint_some q3
  obtain ⟨a4, b4, c4⟩ := pint_some q4
  obtain ⟨a5, b5, c5⟩ := pnum_some q5
  obtain ⟨a6, b6, c6⟩ := pnum_some q6
  exact ⟨by simp [c1, a2, a3, a4, a5, a6], ⟨by show _ ≤ x1; omega, by show x1 ≤ _; omega, b2, c2, b3, c3, b4, c4, b5, c5, b6, c6, w7⟩, by simp [Ap.ok, a1, b1, o7]⟩

/-- No blank, and no line's end, in a word. -/
def Pure (s : List UInt8) : Prop := (32 : UInt8) ∉ s ∧ (10 : UInt8) ∉ s
theorem dec_range : ∀ (u : Nat), ∀ c ∈ decDigits u, 48 ≤ c.toNat ∧ c.toNat ≤ 57 := by
  intro u
  induction u using Nat.strongRecOn with
  | _ u ih =>
    intro c hc
    by_cases h10 : u < 10
    · rw [decDigits, dif_pos h10, List.mem_singleton] at hc
      subst hc
      rw [UInt8.toNat_ofNat']
      omega
    · rw [dec_step h10, List.mem_append, List.mem_singleton] at hc
      rcases hc with hc | rfl
      · exact ih (u / 10) (by omega) c hc
      · rw [UInt8.toNat_ofNat']
        omega
theorem pure_of {s : List UInt8} (h : ∀ c ∈ s, 33 ≤ c.toNat) : Pure s := ⟨fun hc => by have := h _ hc; revert this; decide, fun hc => by have := h _ hc; revert this; decide⟩
theorem pure_dec (u : Nat) : Pure (decDigits u) := pure_of fun c hc => by have := dec_range u c hc; omega
theorem pure_udec (n : Int) : Pure (udec n) := pure_dec _
theorem pure_itoa (n : Int) : Pure (itoa n) := by
  unfold itoa
  split
  · refine pure_of fun c hc => ?_
    rcases List.mem_cons.1 hc with rfl | hc
    · decide
    · have := dec_range _ c hc; omega
  · exact pure_dec _
theorem fig_ge : ∀ n, n < 16 → 33 ≤ (fig n).toNat := by decide
theorem pure_hexs : ∀ (k : List UInt8), Pure (120 :: hexs k) := by
  have h : ∀ k : List UInt8, ∀ c ∈ hexs k, 33 ≤ c.toNat := by
    intro k
    induction k with
    | nil => intro c hc; simp [hexs] at hc
    | cons x r ih =>
      intro c hc
      have hx := x.toNat_lt
      simp only [hexs, List.mem_cons] at hc
      rcases hc with rfl | rfl | hc
      · exact fig_ge _ (by omega)
      · exact fig_ge _ (by omega)
      · exact ih c hc
  exact fun k => pure_of fun c hc => by
    rcases List.mem_cons.1 hc with rfl | hc
    · decide
    · exact h k c hc
theorem pure_kind : ∀ n, n ≤ 18 → Pure (kindWord n) := by
  intro n hn
  have : ∀ k, k < 19 → (32 : UInt8) ∉ kindWord k ∧ (10 : UInt8) ∉ kindWord k := by decide
  exact this n (by omega)
theorem Cm.pure (c : Cm) : ∀ s ∈ c.words, Pure s := by
  intro s hs
  simp only [Cm.words, List.mem_cons, List.not_mem_nil, or_false] at hs
  rcases hs with rfl | rfl | rfl | rfl | rfl | rfl | rfl
  · exact pure_udec _
  · exact pure_udec _
  · exact pure_itoa _
  · exact pure_hexs _
  · exact pure_itoa _
  · exact pure_itoa _
  · exact pure_udec _
theorem Ap.pure (a : Ap) : ∀ s ∈ [itoa a.a, itoa a.b, itoa a.n, udec a.draw, udec a.mask] ++ a.cmd.words, Pure s := by
  intro s hs
  rcases List.mem_append.1 hs with hs | hs
  · simp only [List.mem_cons, List.not_mem_nil, or_false] at hs
    rcases hs with rfl | rfl | rfl | rfl | rfl
    · exact pure_itoa _
    · exact pure_itoa _
    · exact pure_itoa _
    · exact pure_udec _
    · exact pure_udec _
  · exact a.cmd.pure s hs
theorem readAct_line {a : Ap} (ha : a.wf) (ho : a.ok = true) : readAct a.line = some a := by
  have hk : 1 ≤ a.kind ∧ a.kind ≤ 18 := by simp only [Ap.ok, Bool.and_eq_true, decide_eq_true_eq] at ho; omega
  unfold readAct whole Ap.line
  rw [parts_tail (pure_kind _ (by omega)).1 (fun s hs => (a.pure s hs).1)]
  have := rdAct_words ha ho []
  rw [List.append_nil] at this
  rw [this]
theorem parts_back : ∀ (l : List UInt8) (s : List UInt8) (ws : List (List UInt8)), parts 32 l = s :: ws → l = s ++ tailw ws
  | [], s, ws, h => by
    simp only [parts, List.cons.injEq] at h
    obtain ⟨rfl, rfl⟩ := h
    rfl
  | c :: r, s, ws, h => by
    unfold parts at h
    split at h
    · rename_i hc
      injection h with h1 h2
      subst h1 hc
      obtain ⟨s', ws', e⟩ : ∃ s' ws', parts 32 r = s' :: ws' := by
        cases hp : parts 32 r with
        | nil => exact absurd hp (parts_ne _ _)
        | cons a b => exact ⟨a, b, rfl⟩
      rw [← h2, e, parts_back r s' ws' e]
      rfl
    · split at h
      · rename_i e; exact absurd e (parts_ne _ _)
      · rename_i w ws' e
        injection h with h1 h2
        subst h1 h2
        rw [parts_back r w ws' e]
        rfl
theorem readAct_some {l : List UInt8} {a : Ap} (h : readAct l = some a) : a.line = l ∧ a.wf ∧ a.ok = true := by
  obtain ⟨h1, h2, h3⟩ := rdAct_some (whole_some h)
  rw [List.append_nil] at h1
  exact ⟨(parts_back _ _ _ h1).symm, h2, h3⟩
end Go.Proofs.YtjgonfnpfbifjaaGreatDoor
