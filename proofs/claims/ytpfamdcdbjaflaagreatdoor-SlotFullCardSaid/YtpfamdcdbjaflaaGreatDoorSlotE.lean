/- What Open has seen of a disk (plain); a name's bytes; a row of names that grows. -/
import Derived.Test.YtpfamdcdbjaflaaGreatDoorSlotD
namespace Go.Proofs.YtpfamdcdbjaflaaGreatDoor
open Go.RowKit

def scanAt (b : Nm) (D : DSt) (k : Nat) : Sc := ((namesD D).take k).foldl (scan1 b D.files) Sc.zero
theorem scanAt_zero (b : Nm) (D : DSt) : scanAt b D 0 = Sc.zero := rfl
theorem scanAt_all (b : Nm) (D : DSt) : scanAt b D (namesD D).length = scanD b D := by unfold scanAt scanD; rw [List.take_length]
theorem scanAt_step (b : Nm) (D : DSt) {k : Nat} (hk : k < (namesD D).length) : scanAt b D (k + 1) = scan1 b D.files (scanAt b D k) (namesD D)[k] := by
  unfold scanAt
  rw [List.take_succ_eq_append_getElem hk, List.foldl_append]
  rfl
/-- The slot's files have the names that the slot would give them. -/
def Canon (b : Nm) (D : DSt) : Prop := ∀ f ∈ namesD D, ∀ n, numN b f = some n → f = fileN b n ∧ n < 18446744073709551616
structure ScanOk (b : Nm) (L : List Nm) (s : Sc) : Prop where
  last : s.last < 18446744073709551616
  best : s.best < 18446744073709551616
  sub : s.old.Sublist L
  mem : s.has = true → fileN b s.best ∈ s.old
theorem scan1_cases (b : Nm) (F : FS) (s : Sc) (f : Nm) : scan1 b F s f = s ∧ numN b f = none ∨ ∃ n, numN b f = some n ∧ (scan1 b F s f = ⟨max s.last n, n, true, (unfrAt ((fget F f).getD []) 0).1, s.old ++ [f]⟩ ∨ scan1 b F s f = ⟨max s.last n, s.best, s.has, s.value, s.old ++ [f]⟩) := by
  unfold scan1
  cases h : numN b f with
  | none => exact .inl ⟨rfl, rfl⟩
  | some n =>
    refine .inr ⟨n, rfl, ?_⟩
    simp only
    split
    · exact .inl rfl
    · exact .inr rfl
theorem scanOk_at {b : Nm} {D : DSt} (hc : Canon b D) : ∀ k, k ≤ (namesD D).length → ScanOk b ((namesD D).take k) (scanAt b D k)
  | 0, _ => ⟨by rw [scanAt_zero]; show 0 < _; omega, by rw [scanAt_zero]; show 0 < _; omega, by rw [scanAt_zero]; exact List.nil_sublist _, by rw [scanAt_zero]; intro h; cases h⟩
  | k + 1, hk => by
    have ih := scanOk_at hc k (by omega)
    have hlt : k < (namesD D).length := by omega
    rw [scanAt_step b D hlt, List.take_succ_eq_append_getElem hlt]
    have hm : (namesD D)[k] ∈ namesD D := List.getElem_mem hlt
    rcases scan1_cases b D.files (scanAt b D k) (namesD D)[k] with ⟨e, _⟩ | ⟨n, hn, e | e⟩
    · rw [e]
      exact ⟨ih.last, ih.best, ih.sub.trans (List.sublist_append_left _ _), ih.mem⟩
    · obtain ⟨h1, h2⟩ := hc _ hm n hn
      have := ih.last
      rw [e]
      refine ⟨?_, h2, ih.sub.append (List.Sublist.refl _), fun _ => ?_⟩
      · simp only; omega
      · simp only; rw [← h1]; exact List.mem_append_right _ (List.mem_singleton.2 rfl)
    · obtain ⟨h1, h2⟩ := hc _ hm n hn
      have := ih.last
      rw [e]
      refine ⟨?_, ih.best, ih.sub.append (List.Sublist.refl _), fun h => List.mem_append_left _ (ih.mem h)⟩
      simp only; omega
theorem split_once {l : List Nm} {x : Nm} (hn : l.Nodup) (hx : x ∈ l) : ∃ l1 l2, l = l1 ++ x :: l2 ∧ x ∉ l1 ∧ x ∉ l2 ∧ l.filter (fun f => !(f == x)) = l1 ++ l2 := by
  obtain ⟨l1, l2, rfl⟩ := List.append_of_mem hx
  have h := List.nodup_append.1 hn
  have h1 : x ∉ l1 := fun h' => h.2.2 x h' x (List.mem_cons_self ..) rfl
  have h2 : x ∉ l2 := (List.nodup_cons.1 h.2.1).1
  refine ⟨l1, l2, rfl, h1, h2, ?_⟩
  rw [List.filter_append, List.filter_cons]
  simp only [beq_self_eq_true, Bool.not_true, Bool.false_eq_true, if_false]
  rw [List.filter_eq_self.2 (fun a ha => by simp; rintro rfl; exact h1 ha), List.filter_eq_self.2 (fun a ha => by simp; rintro rfl; exact h2 ha)]
theorem names_nodup {S : Nat → Prop} {w : World} {g : Nat} {D : DSt} (h : DI S w g D) : (namesD D).Nodup := by
  obtain ⟨mf, ms, A, c, r⟩ := h
  unfold namesD
  split
  · exact List.nodup_nil
  · obtain ⟨es, _, _, hr, _⟩ := r.fi
    exact rising_nodup hr
theorem names_get {S : Nat → Prop} {w : World} {g : Nat} {D : DSt} (h : DI S w g D) {f : Nm} (hf : f ∈ namesD D) : ∃ l, fget D.files f = some l ∧ l.length ≤ 4194304 := by
  obtain ⟨mf, ms, A, c, r⟩ := h
  have hsm := foldl_small r.ok.2.2.1 r.ok.2.2.2
  unfold namesD at hf
  split at hf
  · cases hf
  · obtain ⟨q, hq, rfl⟩ := List.mem_map.1 hf
    obtain ⟨es, _, _, hr, _⟩ := r.fi
    have hg := fget_of_mem (rising_nodup hr) hq
    exact ⟨q.2, hg, hsm _ _ hg⟩
theorem read_ok {S : Nat → Prop} {w : World} {g : Nat} {D : DSt} (h : DI S w g D) (hd : D.down = false) {f : Nm} (hn : nameOk f = true) (hf : f ∈ namesD D) : readE D f = 0 ∧ readB D f = (fget D.files f).getD [] ∧ ((fget D.files f).getD []).length ≤ 4194304 := by
  obtain ⟨l, h1, h2⟩ := names_get h hf
  have e : readE D f = 0 := by unfold readE; rw [if_neg (by rw [hd]; simp), if_neg (by rw [hn]; simp), if_pos (by rw [h1]; rfl)]
  exact ⟨e, by unfold readB; rw [if_pos e], by rw [h1]; exact h2⟩

/-! ### A row of names that grows -/
theorem flat_one : ∀ xs : List Value, (xs.map fun v => [v]).flatten = xs
  | [] => rfl
  | x :: r => by rw [List.map_cons, List.flatten_cons, flat_one r]; rfl
theorem OV.to_or {w : World} {base c : Nat} {e : TypeId} {A : Option Addr} {xs : List Value} (h : OV w base e A c xs) : OR w base e 1 A c (xs.map fun v => [v]) := by
  refine ⟨?_, fun r hr => by obtain ⟨v, _, rfl⟩ := List.mem_map.1 hr; rfl⟩
  rw [flat_one, List.length_map]
  exact h
theorem OR.to_ov {w : World} {base c : Nat} {e : TypeId} {A : Option Addr} {xs : List Value} (h : OR w base e 1 A c (xs.map fun v => [v])) : OV w base e A c xs := by
  have := h.1
  rw [flat_one, List.length_map] at this
  exact this
theorem string_info : (Tryz.prog.info? 9).map (fun i => (i.zero, i.size, i.bytes)) = some (some (.string ⟨#[]⟩), 1, 16) := by kernel_rfl
/-- 'append(s, x)', one name. -/
theorem op_appendN (w : World) {o : Oper} {a : Act} {K : Act → World → Prop} {Q : Exit → Act → World → Prop} (s x : Operand)
    (ho : o.op = .call { callee := .builtin .append, args := #[s, x], argTypes := #[39, 39] })
    (base : Nat) (A : Option Addr) (c gx : Nat) (l : List Nm) (f : Nm) (hs : a.eval s = .slice A l.length c) (hx : a.eval x = .slice (some ⟨gx, 0, none⟩) 1 1)
    (hown : OV w base 9 A c (l.map encStr)) (hb : Blk w gx 9 #[.string ⟨f.toArray⟩]) (hl : l.length ≤ 1000000) (hbase : base ≤ w.heap.size)
    (h : ∀ (m : Nat) (A' : Option Addr) (c' : Nat) (w' : World), m ≤ (l ++ [f]).length → (l ++ [f]).length ≤ m → OV w' base 9 A' c' ((l ++ [f]).map encStr) → w.grownBy w' (A.map (·.block)) → (A'.map (·.block) = A.map (·.block) ∨ A'.map (·.block) = some w.heap.size) →
      K (a.put o.dst (.slice A' m c')) w') : o.wp Tryz.prog a w K Q := by
  obtain ⟨i, hi, hz0, hz1, hz2⟩ := info_parts string_info
  refine op_appendS w s x 39 9 ho Tryz.underlying39 hi hz0 hz1 hz2 rfl (by decide) base A (some ⟨gx, 0, none⟩) c 1 ((l.map encStr).map fun v => [v]) [[encStr f]] (by rw [List.length_map, List.length_map]; exact hs) hx hown.to_or (RS.lit (r := [encStr f]) hb) (fun r hr => by rw [List.mem_singleton.1 hr]; rfl) (fun r hr v hv => by rw [List.mem_singleton.1 hr] at hv; rw [List.mem_singleton.1 hv]; rfl) (by rw [List.length_map, List.length_map]; simp; omega) (by rw [List.length_map, List.length_map]; simp; omega) hbase ?_
  intro ys A' c' w' hys h1 h2 ho' hg hAt
  have e : ys = ((l ++ [f]).map encStr).map fun v => [v] := by rw [hys.out]; simp
  refine h ys.length A' c' w' (by rw [e]; simp) (by rw [e]; simp) ?_ hg hAt
  rw [e] at ho'
  exact ho'.to_ov

/-! ### A slot's name -/
def letters : List UInt8 := [97, 98, 99, 100, 101, 102, 103, 104, 105, 106, 107, 108, 109, 110, 111, 112, 113, 114, 115, 116, 117, 118, 119, 120, 121, 122]
theorem letters_mem (c : UInt8) : letters.contains c = true ↔ 97 ≤ c.toNat ∧ c.toNat ≤ 122 := by
  have h256 : c.toNat < 256 := c.toNat_lt
  have e : c = UInt8.ofNat c.toNat := by simp
  rw [List.contains_iff_mem]
  have hl : letters.map UInt8.toNat = [97, 98, 99, 100, 101, 102, 103, 104, 105, 106, 107, 108, 109, 110, 111, 112, 113, 114, 115, 116, 117, 118, 119, 120, 121, 122] := by decide
  constructor
  · intro h
    have := List.mem_map_of_mem (f := UInt8.toNat) h
    rw [hl] at this
    simp only [List.mem_cons, List.not_mem_nil, or_false] at this
    omega
  · intro h
    have hm : c.toNat ∈ letters.map UInt8.toNat := by
      rw [hl]
      simp only [List.mem_cons, List.not_mem_nil, or_false]
      omega
    obtain ⟨d, hd, he⟩ := List.mem_map.1 hm
    rw [e, ← he]
    simpa using hd
theorem slotTrim (b : List UInt8) (w : World) (hb : b.length ≤ 9223372036854775807) :
    Calls Tryz.prog 19 #[.string ⟨b.toArray⟩, .string ⟨#[97, 98, 99, 100, 101, 102, 103, 104, 105, 106, 107, 108, 109, 110, 111, 112, 113, 114, 115, 116, 117, 118, 119, 120, 121, 122]⟩] w fun e w' => e = .returned (.string ⟨(Lib.trimS b letters).toArray⟩) ∧ Below w.heap.size w w' :=
  Any.strings_Trim_laid Tryz.lays160 (by kernel_rfl) ⟨b.toArray⟩ ⟨#[97, 98, 99, 100, 101, 102, 103, 104, 105, 106, 107, 108, 109, 110, 111, 112, 113, 114, 115, 116, 117, 118, 119, 120, 121, 122]⟩ w (by simpa [ByteArray.size] using hb) (by decide) (ascii_of_all (by decide))
theorem trim_letters (b : List UInt8) : Lib.trimS b letters = [] ↔ ∀ c ∈ b, 97 ≤ c.toNat ∧ c.toNat ≤ 122 := by
  rw [trim_empty, List.all_eq_true]
  exact ⟨fun h c hc => (letters_mem c).1 (h c hc), fun h c hc => (letters_mem c).2 (h c hc)⟩
end Go.Proofs.YtpfamdcdbjaflaaGreatDoor
