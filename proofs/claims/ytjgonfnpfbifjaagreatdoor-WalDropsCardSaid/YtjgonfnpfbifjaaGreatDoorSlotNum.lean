/- Plain: a slot on a disk. -/
import Derived.Test.YtjgonfnpfbifjaaGreatDoorDskR
import Derived.Test.YtjgonfnpfbifjaaGreatDoorBackNum
import Derived.Test.YtjgonfnpfbifjaaGreatDoorFrame
import Derived.Test.YtjgonfnpfbifjaaGreatDoorScrRd
namespace Go.Proofs.YtjgonfnpfbifjaaGreatDoor
open Go.Lib

/-- A slot. -/
structure Sl where
  base : Nm
  last : Nat
  value : List UInt8
  has : Bool
  old : List Nm
  down : Bool
def fileN (b : Nm) (n : Nat) : Nm := b ++ [46] ++ decDigits n
def numN (b f : Nm) : Option Nat :=
  if hasPrefix f (b ++ [46]) = true then (match parseUintB 64 (trimPrefix f (b ++ [46])) with | .ok u => some u | _ => none) else none
/-- What Open has seen. -/
structure Sc where
  last : Nat
  best : Nat
  has : Bool
  value : List UInt8
  old : List Nm
def Sc.zero : Sc := ⟨0, 0, false, [], []⟩
def scan1 (b : Nm) (F : FS) (s : Sc) (f : Nm) : Sc :=
  match numN b f with
  | none => s
  | some n =>
    if (unfrAt ((fget F f).getD []) 0).2.2 = 0 ∧ (unfrAt ((fget F f).getD []) 0).2.1 = (((fget F f).getD []).length : Int) ∧ (s.has = false ∨ s.best < n) then
      ⟨max s.last n, n, true, (unfrAt ((fget F f).getD []) 0).1, s.old ++ [f]⟩
    else ⟨max s.last n, s.best, s.has, s.value, s.old ++ [f]⟩
def scanD (b : Nm) (D : DSt) : Sc := (namesD D).foldl (scan1 b D.files) Sc.zero
def rmD (D : DSt) (f : Nm) : Int × DSt := changeD D ⟨3, f, 0, []⟩ 0
def cleanL : List Nm → DSt → Int × DSt
  | [], D => (0, D)
  | f :: r, D => if (rmD D f).1 = 0 then cleanL r (rmD D f).2 else rmD D f
def cleanD (old : List Nm) (D : DSt) : Int × DSt :=
  if old = [] then (0, D) else if (cleanL old D).1 = 0 then syncD (cleanL old D).2 else cleanL old D
def restN (b : Nm) (s : Sc) : List Nm := if s.has = true then s.old.filter (fun f => !(f == fileN b s.best)) else s.old
def openD (b : Nm) (D : DSt) : Int × DSt := cleanD (restN b (scanD b D)) D
def openS (b : Nm) (s : Sc) : Sl := ⟨b, s.last, s.value, s.has, if s.has = true then [fileN b s.best] else [], false⟩
def putS (D : DSt) (f : Nm) (x : List UInt8) : Int × DSt := changeD D ⟨1, f, 0, frameB x⟩ 0
def saveS (s : Sl) (D : DSt) (x : List UInt8) : Int × Sl × DSt :=
  if s.down = true then (11, s, D)
  else if 65520 < x.length then (7, s, D)
  else if (putS D (fileN s.base (s.last + 1)) x).1 ≠ 0 then ((putS D (fileN s.base (s.last + 1)) x).1, { s with down := decide ((putS D (fileN s.base (s.last + 1)) x).1 = 11) }, (putS D (fileN s.base (s.last + 1)) x).2)
  else if (syncD (putS D (fileN s.base (s.last + 1)) x).2).1 ≠ 0 then
    ((syncD (putS D (fileN s.base (s.last + 1)) x).2).1, { s with last := s.last + 1, down := decide ((syncD (putS D (fileN s.base (s.last + 1)) x).2).1 = 11) }, (syncD (putS D (fileN s.base (s.last + 1)) x).2).2)
  else ((cleanD s.old (syncD (putS D (fileN s.base (s.last + 1)) x).2).2).1, ⟨s.base, s.last + 1, x, true, [fileN s.base (s.last + 1)], decide ((cleanD s.old (syncD (putS D (fileN s.base (s.last + 1)) x).2).2).1 = 11)⟩, (cleanD s.old (syncD (putS D (fileN s.base (s.last + 1)) x).2).2).2)
def loadE (s : Sl) : Int := if s.down = true then 11 else if s.has = false then 8 else 0

/-! ### Names -/
def BaseOk (b : Nm) : Prop := (1 ≤ b.length ∧ b.length ≤ 8) ∧ ∀ c ∈ b, 97 ≤ c.toNat ∧ c.toNat ≤ 122
theorem set_of_range {c : UInt8} (h : (97 ≤ c.toNat ∧ c.toNat ≤ 122) ∨ (48 ≤ c.toNat ∧ c.toNat ≤ 57)) : nameSet.contains c = true := by
  have h256 : c.toNat < 256 := c.toNat_lt
  have e : c = UInt8.ofNat c.toNat := by simp
  rw [List.contains_iff_mem, e]
  generalize c.toNat = n at *
  have hm : n ∈ nameSet.map UInt8.toNat := by
    have : nameSet.map UInt8.toNat = [97, 98, 99, 100, 101, 102, 103, 104, 105, 106, 107, 108, 109, 110, 111, 112, 113, 114, 115, 116, 117, 118, 119, 120, 121, 122, 48, 49, 50, 51, 52, 53, 54, 55, 56, 57, 46] := by decide
    rw [this]
    simp only [List.mem_cons, List.not_mem_nil, or_false]
    omega
  obtain ⟨d, hd, rfl⟩ := List.mem_map.1 hm
  simpa using hd
theorem nameOk_file {b : Nm} (hb : BaseOk b) {n : Nat} (hn : n < 18446744073709551616) : nameOk (fileN b n) = true := by
  have h1 := nDigits_le hn
  have h2 : (decDigits n).length ≤ 20 := by rw [decDigits_length]; exact h1
  unfold nameOk fileN
  rw [Bool.and_eq_true, decide_eq_true_eq, List.all_eq_true]
  refine ⟨by simp only [List.length_append, List.length_cons, List.length_nil]; have := hb.1; omega, fun c hc => ?_⟩
  rcases List.mem_append.1 hc with hc | hc
  · rcases List.mem_append.1 hc with hc | hc
    · exact set_of_range (.inl (hb.2 c hc))
    · rw [List.mem_singleton.1 hc]; decide
  · exact set_of_range (.inr (dec_range n c hc))
theorem fileN_len {b : Nm} (hb : BaseOk b) {n : Nat} (hn : n < 18446744073709551616) : (fileN b n).length ≤ 29 := by
  have h2 : (decDigits n).length ≤ 20 := by rw [decDigits_length]; exact nDigits_le hn
  unfold fileN
  simp only [List.length_append, List.length_cons, List.length_nil]
  have := hb.1
  omega
theorem numN_file (b : Nm) {n : Nat} (hn : n < 18446744073709551616) : numN b (fileN b n) = some n := by
  have h1 : hasPrefix (fileN b n) (b ++ [46]) = true := by
    unfold hasPrefix fileN
    rw [List.isPrefixOf_iff_prefix]
    exact ⟨_, rfl⟩
  have h2 : trimPrefix (fileN b n) (b ++ [46]) = decDigits n := by
    unfold trimPrefix
    rw [if_pos h1]
    exact List.drop_left' rfl
  unfold numN
  rw [if_pos h1, h2, parseB_dec (by omega)]
theorem fileN_inj {b : Nm} {n m : Nat} (hn : n < 18446744073709551616) (hm : m < 18446744073709551616) (h : fileN b n = fileN b m) : n = m := by
  have h1 := numN_file b hn
  rw [h, numN_file b hm] at h1
  injection h1 with h1
  exact h1.symm
theorem numN_other {b c : Nm} (hb : BaseOk b) (hc : BaseOk c) (hne : b ≠ c) (n : Nat) : numN b (fileN c n) = none := by
  unfold numN
  rw [if_neg]
  intro h
  unfold hasPrefix fileN at h
  rw [List.isPrefixOf_iff_prefix] at h
  obtain ⟨r, hr⟩ := h
  have key : ∀ (b c x y : List UInt8), (∀ z ∈ b, 97 ≤ z.toNat) → (∀ z ∈ c, 97 ≤ z.toNat) → b ++ [46] ++ x = c ++ [46] ++ y → b = c := by
    intro b
    induction b with
    | nil =>
      intro c x y _ hc h
      cases c with
      | nil => rfl
      | cons z c =>
        simp only [List.nil_append, List.cons_append] at h
        injection h with h _
        have := hc z (List.mem_cons_self ..)
        rw [← h] at this
        exact absurd this (by decide)
    | cons z b ih =>
      intro c x y hb hc h
      cases c with
      | nil =>
        simp only [List.nil_append, List.cons_append] at h
        injection h with h _
        have := hb z (List.mem_cons_self ..)
        rw [h] at this
        exact absurd this (by decide)
      | cons z' c =>
        simp only [List.cons_append] at h
        injection h with h1 h2
        rw [h1, ih c x y (fun a ha => hb a (List.mem_cons_of_mem _ ha)) (fun a ha => hc a (List.mem_cons_of_mem _ ha)) h2]
  exact hne (key b c r (decDigits n) (fun z hz => (hb.2 z hz).1) (fun z hz => (hc.2 z hz).1) hr)

/-! ### Frames -/
theorem frame_len (x : List UInt8) : (frameB x).length = x.length + 8 := by unfold frameB; simp [fourB]
theorem unfr_frame {x : List UInt8} (hx : x.length ≤ 65520) : unfrAt (frameB x) 0 = (x, (x.length : Int) + 8, 0) := by
  have := unfrAt_put [] x (frameB x) rfl (by omega)
  simp only [List.nil_append, List.length_nil] at this
  rw [show ((0 : Nat) : Int) = 0 from rfl] at this
  rw [this]
  congr 2
  omega
theorem unfr_cut {x : List UInt8} (hx : x.length ≤ 65520) {m : Nat} (hm : m < (frameB x).length) : unfrAt ((frameB x).take m) 0 = ([], 0, 5) := unfrAt_cut x (frameB x) rfl (by omega) m hm
theorem scan_good {b : Nm} {F : FS} {s : Sc} {n : Nat} {x : List UInt8} (hn : n < 18446744073709551616) (hx : x.length ≤ 65520) (hf : fget F (fileN b n) = some (frameB x)) :
    scan1 b F s (fileN b n) = if s.has = false ∨ s.best < n then ⟨max s.last n, n, true, x, s.old ++ [fileN b n]⟩ else ⟨max s.last n, s.best, s.has, s.value, s.old ++ [fileN b n]⟩ := by
  unfold scan1
  rw [numN_file b hn, hf]
  simp only [Option.getD_some, unfr_frame hx, frame_len, true_and]
  by_cases h : s.has = false ∨ s.best < n
  · rw [if_pos h, if_pos ⟨by omega, h⟩]
  · rw [if_neg h, if_neg (fun e => h e.2)]
theorem scan_bad {b : Nm} {F : FS} {s : Sc} {n m : Nat} {x : List UInt8} (hn : n < 18446744073709551616) (hx : x.length ≤ 65520) (hm : m < (frameB x).length) (hf : fget F (fileN b n) = some ((frameB x).take m)) :
    scan1 b F s (fileN b n) = ⟨max s.last n, s.best, s.has, s.value, s.old ++ [fileN b n]⟩ := by
  unfold scan1
  rw [numN_file b hn, hf]
  simp only [Option.getD_some, unfr_cut hx hm]
  rw [if_neg (by simp)]
theorem scan_skip {b : Nm} {F : FS} {s : Sc} {f : Nm} (h : numN b f = none) : scan1 b F s f = s := by
  unfold scan1
  rw [h]

/-! ### Cleaning -/
theorem burn_idle {D : DSt} (h : D.fuse = 0) : burnD D = D := by unfold burnD; rw [if_neg (by omega)]
theorem rm_idle {D : DSt} {f : Nm} (hd : D.down = false) (hf : D.fuse = 0) (hn : nameOk f = true) : rmD D f = (0, { D with unsure := D.unsure ++ [⟨3, f, 0, []⟩] }) := by
  have hr : refuseD D ⟨3, f, 0, []⟩ 0 = 0 := by
    unfold refuseD
    rw [if_neg (by rw [hd]; simp), if_neg (by rw [hn]; simp), if_neg (by simp), if_neg (by simp [afterN])]
  unfold rmD changeD
  rw [if_neg (by rw [hr]; simp), burn_idle hf, if_neg (by rw [hd]; simp)]
theorem sync_idle {D : DSt} (hd : D.down = false) (hf : D.fuse = 0) : syncD D = (0, { D with sure := D.files, unsure := [] }) := by
  unfold syncD
  rw [if_neg (by rw [hd]; simp), burn_idle hf, if_neg (by rw [hd]; simp)]
theorem clean_none (D : DSt) : cleanD [] D = (0, D) := by unfold cleanD; rw [if_pos rfl]
theorem clean_one {D : DSt} {f : Nm} (hd : D.down = false) (hf : D.fuse = 0) (hu : D.unsure = []) (hn : nameOk f = true) : cleanD [f] D = (0, { D with sure := fdel D.sure f, unsure := [] }) := by
  have h := rm_idle hd hf hn
  unfold cleanD
  rw [if_neg (by simp)]
  simp only [cleanL, h, if_true]
  rw [sync_idle (D := { D with unsure := D.unsure ++ [⟨3, f, 0, []⟩] }) hd hf]
  simp only [DSt.files, hu, List.nil_append, List.foldl_cons, List.foldl_nil, doF]
  rfl
/-! ### A slot and its disk -/
structure Inv (b : Nm) (s : Sl) (D : DSt) (v : Option (List UInt8)) : Prop where
  base : s.base = b
  up : s.down = false
  dd : D.down = false
  uns : D.unsure = []
  has : s.has = v.isSome
  val : s.value = v.getD []
  files : (v = none ∧ D.sure = [] ∧ s.old = []) ∨ (∃ x n, v = some x ∧ x.length ≤ 65520 ∧ n ≤ s.last ∧ D.sure = [(fileN b n, frameB x)] ∧ s.old = [fileN b n])
structure Opened (b : Nm) (D : DSt) (v : Option (List UInt8)) (m : Nat) : Prop where
  ok : (openD b D).1 = 0
  inv : Inv b (openS b (scanD b D)) (openD b D).2 v
  lst : (scanD b D).last ≤ m
  cnt : D.cnt ≤ 10
  nms : ∀ p ∈ D.files, nameOk p.1 = true
  dn : D.down = false
  uns : D.unsure = []
  fuse : (openD b D).2.fuse = 0
  room : (openD b D).2.room = D.room
  can : ∀ p ∈ D.files, ∀ n, numN b p.1 = some n → p.1 = fileN b n ∧ n < 18446744073709551616
/-- A disk at rest. -/
structure Rest (D : DSt) : Prop where
  dd : D.down = false
  fu : D.fuse = 0
  un : D.unsure = []
theorem Rest.files {D : DSt} (h : Rest D) : D.files = D.sure := by unfold DSt.files; rw [h.un]; rfl
theorem Rest.names {D : DSt} (h : Rest D) : namesD D = D.sure.map Prod.fst := by unfold namesD; rw [if_neg (by rw [h.dd]; simp), h.files]
theorem Rest.scan {D : DSt} (h : Rest D) (b : Nm) : scanD b D = (D.sure.map Prod.fst).foldl (scan1 b D.sure) Sc.zero := by unfold scanD; rw [h.names, h.files]
theorem opened_of {b : Nm} {D D' : DSt} {v : Option (List UInt8)} {m : Nat} {sc : Sc} (h : Rest D) (hs : scanD b D = sc) (ho : cleanD (restN b sc) D = (0, D')) (hi : Inv b (openS b sc) D' v) (hl : sc.last ≤ m) (hc : D.sure.length ≤ 10) (hn : ∀ p ∈ D.sure, nameOk p.1 = true) (hf : D'.fuse = 0) (hcn : ∀ p ∈ D.sure, numN b p.1 = none ∨ ∃ k, k < 18446744073709551616 ∧ p.1 = fileN b k) (hro : D'.room = D.room) : Opened b D v m := by
  have e : openD b D = (0, D') := by unfold openD; rw [hs, ho]
  refine ⟨by rw [e], ?_, by rw [hs]; exact hl, ?_, ?_, h.dd, h.un, by rw [e]; exact hf, by rw [e]; exact hro, ?_⟩
  · rw [e, hs]; exact hi
  · unfold DSt.cnt; rw [h.un]; simpa using hc
  · rw [h.files]; exact hn
  · rw [h.files]
    intro p hp n hpn
    rcases hcn p hp with h1 | ⟨k, hk, h1⟩
    · rw [h1] at hpn; cases hpn
    · rw [h1, numN_file b hk] at hpn
      injection hpn with hpn
      subst hpn
      exact ⟨h1, hk⟩
theorem open_none {b : Nm} {D : DSt} (h : Rest D) (hs : D.sure = []) (m : Nat) : Opened b D none m := by
  refine opened_of (sc := Sc.zero) (D' := D) h (by rw [h.scan, hs]; rfl) ?_ ?_ (Nat.zero_le _) (by rw [hs]; simp) (by rw [hs]; simp) h.fu (by rw [hs]; simp) rfl
  · show cleanD [] D = _
    exact clean_none D
  · exact ⟨rfl, rfl, h.dd, h.un, rfl, rfl, .inl ⟨rfl, hs, rfl⟩⟩
theorem fget_one (a : Nm) (X : List UInt8) : fget [(a, X)] a = some X := by rw [fget_cons, if_pos rfl]
theorem open_one {b : Nm} (hb : BaseOk b) {D : DSt} (h : Rest D) {n m : Nat} {x : List UInt8} (hx : x.length ≤ 65520) (hn : n ≤ m) (hm : m < 18446744073709551616) (hs : D.sure = [(fileN b n, frameB x)]) : Opened b D (some x) m := by
  have hn' : n < 18446744073709551616 := by omega
  have hsc : scanD b D = ⟨n, n, true, x, [fileN b n]⟩ := by
    rw [h.scan, hs]
    simp only [List.map_cons, List.map_nil, List.foldl_cons, List.foldl_nil]
    rw [scan_good hn' hx (fget_one _ _), if_pos (.inl rfl)]
    simp [Sc.zero]
  refine opened_of (D' := D) h hsc ?_ ?_ hn (by rw [hs]; simp) (by rw [hs]; intro p hp; rw [List.mem_singleton.1 hp]; exact nameOk_file hb hn') h.fu (by rw [hs]; intro p hp; rw [List.mem_singleton.1 hp]; exact .inr ⟨n, hn', rfl⟩) rfl
  · have : restN b ⟨n, n, true, x, [fileN b n]⟩ = [] := by simp [restN]
    rw [this]
    exact clean_none D
  · exact ⟨rfl, rfl, h.dd, h.un, rfl, rfl, .inr ⟨x, n, rfl, hx, Nat.le_refl _, hs, rfl⟩⟩
theorem open_torn {b : Nm} (hb : BaseOk b) {D : DSt} (h : Rest D) {k m t : Nat} {y : List UInt8} (hy : y.length ≤ 65520) (hk : k ≤ m) (hm : m < 18446744073709551616) (ht : t < (frameB y).length) (hs : D.sure = [(fileN b k, (frameB y).take t)]) : Opened b D none m := by
  have hk' : k < 18446744073709551616 := by omega
  have hsc : scanD b D = ⟨k, 0, false, [], [fileN b k]⟩ := by
    rw [h.scan, hs]
    simp only [List.map_cons, List.map_nil, List.foldl_cons, List.foldl_nil]
    rw [scan_bad hk' hy ht (fget_one _ _)]
    simp [Sc.zero]
  refine opened_of (D' := { D with sure := fdel D.sure (fileN b k), unsure := [] }) h hsc ?_ ?_ hk (by rw [hs]; simp) (by rw [hs]; intro p hp; rw [List.mem_singleton.1 hp]; exact nameOk_file hb hk') h.fu (by rw [hs]; intro p hp; rw [List.mem_singleton.1 hp]; exact .inr ⟨k, hk', rfl⟩) rfl
  · exact clean_one h.dd h.fu h.un (nameOk_file hb hk')
  · exact ⟨rfl, rfl, h.dd, rfl, rfl, rfl, .inl ⟨rfl, by simp only [hs]; unfold fdel; simp, rfl⟩⟩
theorem fset_two {a c : Nm} {X Y : List UInt8} (hne : a ≠ c) : fset [(a, X)] c Y = [(a, X), (c, Y)] ∨ fset [(a, X)] c Y = [(c, Y), (a, X)] := by
  simp only [fset]
  by_cases h : a < c
  · rw [if_pos h]; exact .inl rfl
  · rw [if_neg h, if_neg hne]; exact .inr rfl
theorem open_two {b : Nm} (hb : BaseOk b) {D : DSt} (h : Rest D) {n k m : Nat} {x y : List UInt8} (hx : x.length ≤ 65520) (hy : y.length ≤ 65520) (hnk : n < k) (hk : k ≤ m) (hm : m < 18446744073709551616) (hs : D.sure = fset [(fileN b n, frameB x)] (fileN b k) (frameB y)) : Opened b D (some y) m := by
  have hk' : k < 18446744073709551616 := by omega
  have hn' : n < 18446744073709551616 := by omega
  have hne : fileN b n ≠ fileN b k := fun e => by have := fileN_inj hn' hk' e; omega
  have g1 : fget D.sure (fileN b n) = some (frameB x) := by rw [hs, fget_fset, if_neg hne, fget_one]
  have g2 : fget D.sure (fileN b k) = some (frameB y) := by rw [hs, fget_fset, if_pos rfl]
  have hnm : ∀ p ∈ D.sure, nameOk p.1 = true := by
    rw [hs]; intro p hp
    rcases fset_mem hp with hp | hp
    · rw [hp]; exact nameOk_file hb hk'
    · rw [List.mem_singleton.1 hp]; exact nameOk_file hb hn'
  have hcn : ∀ p ∈ D.sure, numN b p.1 = none ∨ ∃ k, k < 18446744073709551616 ∧ p.1 = fileN b k := by
    rw [hs]; intro p hp
    rcases fset_mem hp with hp | hp
    · rw [hp]; exact .inr ⟨k, hk', rfl⟩
    · rw [List.mem_singleton.1 hp]; exact .inr ⟨n, hn', rfl⟩
  have hdel : fdel D.sure (fileN b n) = [(fileN b k, frameB y)] := by
    rcases fset_two (X := frameB x) (Y := frameB y) hne with e | e <;> rw [hs, e] <;> unfold fdel <;> simp [hne, hne.symm]
  have hlen : D.sure.length ≤ 10 := by rcases fset_two (X := frameB x) (Y := frameB y) hne with e | e <;> rw [hs, e] <;> simp
  have hin : ∀ o, Inv b (openS b ⟨k, k, true, y, o⟩) { D with sure := fdel D.sure (fileN b n), unsure := [] } (some y) := fun o => ⟨rfl, rfl, h.dd, rfl, rfl, rfl, .inr ⟨y, k, rfl, hy, Nat.le_refl _, hdel, rfl⟩⟩
  rcases fset_two (X := frameB x) (Y := frameB y) hne with e | e
  · have hsc : scanD b D = ⟨k, k, true, y, [fileN b n, fileN b k]⟩ := by
      rw [h.scan, show D.sure.map Prod.fst = [fileN b n, fileN b k] from by rw [hs, e]; rfl]
      simp only [List.foldl_cons, List.foldl_nil]
      rw [scan_good hn' hx g1, if_pos (.inl rfl), scan_good hk' hy g2, if_pos (.inr hnk)]
      simp [Sc.zero]; omega
    refine opened_of h hsc ?_ (hin _) hk hlen hnm h.fu hcn rfl
    rw [show restN b ⟨k, k, true, y, [fileN b n, fileN b k]⟩ = [fileN b n] from by simp [restN, hne]]
    exact clean_one h.dd h.fu h.un (nameOk_file hb hn')
  · have hsc : scanD b D = ⟨k, k, true, y, [fileN b k, fileN b n]⟩ := by
      rw [h.scan, show D.sure.map Prod.fst = [fileN b k, fileN b n] from by rw [hs, e]; rfl]
      simp only [List.foldl_cons, List.foldl_nil]
      rw [scan_good hk' hy g2, if_pos (.inl rfl), scan_good hn' hx g1, if_neg (by simp; omega)]
      simp [Sc.zero]; omega
    refine opened_of h hsc ?_ (hin _) hk hlen hnm h.fu hcn rfl
    rw [show restN b ⟨k, k, true, y, [fileN b k, fileN b n]⟩ = [fileN b n] from by simp [restN, hne]]
    exact clean_one h.dd h.fu h.un (nameOk_file hb hn')
theorem open_half {b : Nm} (hb : BaseOk b) {D : DSt} (h : Rest D) {n k m t : Nat} {x y : List UInt8} (hx : x.length ≤ 65520) (hy : y.length ≤ 65520) (hnk : n < k) (hk : k ≤ m) (hm : m < 18446744073709551616) (ht : t < (frameB y).length) (hs : D.sure = fset [(fileN b n, frameB x)] (fileN b k) ((frameB y).take t)) : Opened b D (some x) m := by
  have hk' : k < 18446744073709551616 := by omega
  have hn' : n < 18446744073709551616 := by omega
  have hne : fileN b n ≠ fileN b k := fun e => by have := fileN_inj hn' hk' e; omega
  have g1 : fget D.sure (fileN b n) = some (frameB x) := by rw [hs, fget_fset, if_neg hne, fget_one]
  have g2 : fget D.sure (fileN b k) = some ((frameB y).take t) := by rw [hs, fget_fset, if_pos rfl]
  have hnm : ∀ p ∈ D.sure, nameOk p.1 = true := by
    rw [hs]; intro p hp
    rcases fset_mem hp with hp | hp
    · rw [hp]; exact nameOk_file hb hk'
    · rw [List.mem_singleton.1 hp]; exact nameOk_file hb hn'
  have hcn : ∀ p ∈ D.sure, numN b p.1 = none ∨ ∃ k, k < 18446744073709551616 ∧ p.1 = fileN b k := by
    rw [hs]; intro p hp
    rcases fset_mem hp with hp | hp
    · rw [hp]; exact .inr ⟨k, hk', rfl⟩
    · rw [List.mem_singleton.1 hp]; exact .inr ⟨n, hn', rfl⟩
  have hdel : fdel D.sure (fileN b k) = [(fileN b n, frameB x)] := by
    rcases fset_two (X := frameB x) (Y := (frameB y).take t) hne with e | e <;> rw [hs, e] <;> unfold fdel <;> simp [hne, hne.symm]
  have hlen : D.sure.length ≤ 10 := by rcases fset_two (X := frameB x) (Y := (frameB y).take t) hne with e | e <;> rw [hs, e] <;> simp
  have hin : ∀ o, Inv b (openS b ⟨k, n, true, x, o⟩) { D with sure := fdel D.sure (fileN b k), unsure := [] } (some x) := fun o => ⟨rfl, rfl, h.dd, rfl, rfl, rfl, .inr ⟨x, n, rfl, hx, Nat.le_of_lt hnk, hdel, rfl⟩⟩
  rcases fset_two (X := frameB x) (Y := (frameB y).take t) hne with e | e
  · have hsc : scanD b D = ⟨k, n, true, x, [fileN b n, fileN b k]⟩ := by
      rw [h.scan, show D.sure.map Prod.fst = [fileN b n, fileN b k] from by rw [hs, e]; rfl]
      simp only [List.foldl_cons, List.foldl_nil]
      rw [scan_good hn' hx g1, if_pos (.inl rfl), scan_bad hk' hy ht g2]
      simp [Sc.zero]; omega
    refine opened_of h hsc ?_ (hin _) hk hlen hnm h.fu hcn rfl
    rw [show restN b ⟨k, n, true, x, [fileN b n, fileN b k]⟩ = [fileN b k] from by simp [restN, hne.symm]]
    exact clean_one h.dd h.fu h.un (nameOk_file hb hk')
  · have hsc : scanD b D = ⟨k, n, true, x, [fileN b k, fileN b n]⟩ := by
      rw [h.scan, show D.sure.map Prod.fst = [fileN b k, fileN b n] from by rw [hs, e]; rfl]
      simp only [List.foldl_cons, List.foldl_nil]
      rw [scan_bad hk' hy ht g2, scan_good hn' hx g1, if_pos (.inl rfl)]
      simp [Sc.zero]; omega
    refine opened_of h hsc ?_ (hin _) hk hlen hnm h.fu hcn rfl
    rw [show restN b ⟨k, n, true, x, [fileN b k, fileN b n]⟩ = [fileN b k] from by simp [restN, hne.symm]]
    exact clean_one h.dd h.fu h.un (nameOk_file hb hk')
/-! ### Save -/
theorem burn_room (D : DSt) : (burnD D).room = D.room := by unfold burnD; split <;> rfl
theorem burn_up {D : DSt} (h : (burnD D).down = false) : (burnD D).down = false := h
theorem refuse_put {D : DSt} {f : Nm} {x : List UInt8} (hd : D.down = false) (hn : nameOk f = true) (hl : D.files.length < 4096) : refuseD D ⟨1, f, 0, x⟩ 0 = 0 ∨ refuseD D ⟨1, f, 0, x⟩ 0 = 10 := by
  unfold refuseD
  rw [if_neg (by rw [hd]; simp), if_neg (by rw [hn]; simp), if_neg (by omega)]
  split
  · exact .inr rfl
  · exact .inl rfl
theorem refuse_rm {D : DSt} {f : Nm} (hd : D.down = false) (hn : nameOk f = true) : refuseD D ⟨3, f, 0, []⟩ 0 = 0 := by
  unfold refuseD
  rw [if_neg (by rw [hd]; simp), if_neg (by rw [hn]; simp), if_neg (by simp), if_neg (by simp [afterN])]
theorem putD_new (x : List UInt8) : putD [] 0 x = x := by
  unfold putD resizeD
  simp
theorem fall_rest (D : DSt) (mask : Nat) (torn : Int) : Rest (fallD D mask torn) := ⟨rfl, rfl, rfl⟩
theorem fall_none {D : DSt} (h : D.unsure = []) (mask : Nat) (torn : Int) : (fallD D mask torn).sure = D.sure := by
  unfold fallD
  simp only [h, fallUs, keepAt, cutLast, List.foldl_nil]
theorem fall_put {D : DSt} {f : Nm} {x : List UInt8} (h : D.unsure = [⟨1, f, 0, x⟩]) (hf : fget D.sure f = none) (mask : Nat) (torn : Int) :
    (fallD D mask torn).sure = D.sure ∨ (fallD D mask torn).sure = fset D.sure f x ∨ ∃ t, t < x.length ∧ (fallD D mask torn).sure = fset D.sure f (x.take t) := by
  unfold fallD
  simp only [h, fallUs, keepAt]
  split
  · simp only [cutLast, List.any_nil, Bool.false_eq_true, if_false]
    rw [if_pos (show isPut ⟨1, f, 0, x⟩ = true from rfl)]
    unfold cutW
    split
    · rename_i ht
      refine .inr (.inr ⟨torn.toNat, by have h2 := ht.2; have h1 := ht.1; simp only at h2; omega, ?_⟩)
      simp only [List.foldl_cons, List.foldl_nil, doF, if_true, hf, Option.getD_none, putD_new]
    · refine .inr (.inl ?_)
      simp only [List.foldl_cons, List.foldl_nil, doF, if_true, hf, Option.getD_none, putD_new]
  · exact .inl rfl
theorem fall_rm {D : DSt} {f : Nm} (h : D.unsure = [⟨3, f, 0, []⟩]) (mask : Nat) (torn : Int) : (fallD D mask torn).sure = D.sure ∨ (fallD D mask torn).sure = fdel D.sure f := by
  unfold fallD
  simp only [h, fallUs, keepAt]
  split
  · refine .inr ?_
    simp only [cutLast, List.any_nil, Bool.false_eq_true, if_false]
    rw [if_neg (show ¬ isPut ⟨3, f, 0, []⟩ = true from by unfold isPut; simp)]
    simp only [List.foldl_cons, List.foldl_nil, doF]
    rfl
  · exact .inl rfl
/-- What a Save comes to. -/
inductive Saved (b : Nm) (s : Sl) (D : DSt) (v : Option (List UInt8)) (x : List UInt8) (r : Int × Sl × DSt) : Prop
  | good (h1 : r.1 = 0) (h2 : Inv b r.2.1 r.2.2 (some x)) (h3 : r.2.1.last = s.last + 1)
  | full (h1 : r.1 = 10) (h2 : r.2.1 = s) (h3 : r.2.2 = D)
  | down (h1 : r.1 = 11) (h2 : r.2.2.cnt ≤ 10) (h4 : ∀ mask torn, ∃ v', (v' = v ∨ v' = some x) ∧ Opened b (fallD r.2.2 mask torn) v' (s.last + 1))
theorem Inv.cnt {b : Nm} {s : Sl} {D : DSt} {v : Option (List UInt8)} (h : Inv b s D v) : D.cnt ≤ 1 ∧ D.files = D.sure ∧ D.sure.length ≤ 1 := by
  have hf : D.files = D.sure := by unfold DSt.files; rw [h.uns]; rfl
  have hl : D.sure.length ≤ 1 := by
    rcases h.files with ⟨_, e, _⟩ | ⟨x, n, _, _, _, e, _⟩ <;> rw [e] <;> simp
  refine ⟨?_, hf, hl⟩
  unfold DSt.cnt
  rw [h.uns]
  simpa using hl
theorem save_spec {b : Nm} (hb : BaseOk b) {s : Sl} {D : DSt} {v : Option (List UInt8)} (h : Inv b s D v) {x : List UInt8} (hx : x.length ≤ 65520) (hl : s.last < 18446744073709551614) : Saved b s D v x (saveS s D x) := by
  obtain ⟨hc1, hfs, hsl⟩ := h.cnt
  have hkk : s.last + 1 < 18446744073709551616 := by omega
  have hn := nameOk_file hb hkk
  obtain ⟨f, hf⟩ : ∃ f, f = fileN b (s.last + 1) := ⟨_, rfl⟩
  have hfn : fget D.sure f = none := by
    rcases h.files with ⟨_, e, _⟩ | ⟨y, n, _, _, hnl, e, _⟩
    · rw [e]; rfl
    · rw [e, fget_cons, if_neg]
      · rfl
      · intro e2
        rw [hf] at e2
        have := fileN_inj (by omega) hkk e2
        omega
  have hfil : ∀ X : List UInt8, (fset D.sure f X).length ≤ 2 := by
    intro X
    rcases h.files with ⟨_, e, _⟩ | ⟨y, n, _, _, hnl, e, _⟩
    · rw [e]; simp [fset]
    · rw [e]
      simp only [fset]
      split
      · simp
      · split <;> simp
  have hbase := h.base
  have hold : ∀ (D' : DSt), Rest D' → D'.sure = D.sure → Opened b D' v (s.last + 1) := by
    intro D' hr he
    rcases h.files with ⟨hv, e, _⟩ | ⟨y, n, hv, hy, hnl, e, _⟩
    · rw [hv]; exact open_none hr (by rw [he, e]) _
    · rw [hv]; exact open_one hb hr hy (show n ≤ s.last + 1 by omega) hkk (by rw [he, e])
  have hnew : ∀ (D' : DSt), Rest D' → D'.sure = fset D.sure f (frameB x) → Opened b D' (some x) (s.last + 1) := by
    intro D' hr he
    rcases h.files with ⟨hv, e, _⟩ | ⟨y, n, hv, hy, hnl, e, _⟩
    · exact open_one hb hr hx (Nat.le_refl _) hkk (by rw [he, e, hf]; rfl)
    · exact open_two hb hr hy hx (by omega : n < s.last + 1) (Nat.le_refl _) hkk (by rw [he, e, hf])
  have htorn : ∀ (D' : DSt) (t : Nat), Rest D' → t < (frameB x).length → D'.sure = fset D.sure f ((frameB x).take t) → Opened b D' v (s.last + 1) := by
    intro D' t hr ht he
    rcases h.files with ⟨hv, e, _⟩ | ⟨y, n, hv, hy, hnl, e, _⟩
    · rw [hv]; exact open_torn hb hr hx (Nat.le_refl _) hkk ht (by rw [he, e, hf]; rfl)
    · rw [hv]; exact open_half hb hr hy hx (by omega : n < s.last + 1) (Nat.le_refl _) hkk ht (by rw [he, e, hf])
  unfold saveS
  rw [if_neg (by rw [h.up]; simp), if_neg (by omega), hbase, ← hf]
  -- the put
  rcases refuse_put (D := D) (f := f) (x := frameB x) h.dd (by rw [hf]; exact hn) (by rw [hfs]; omega) with hr | hr
  rotate_left
  · have e : putS D f x = (10, D) := by unfold putS changeD; rw [if_pos (by rw [hr]; simp), hr]
    rw [e]
    simp only
    rw [if_pos (by simp)]
    refine .full rfl ?_ rfl
    simp only
    obtain ⟨a1, a2, a3, a4, a5, a6⟩ := s
    have := h.up
    simp only at this
    subst this
    simp
    exact h.base.symm
  cases hd1 : (burnD D).down with
  | true =>
    have e : putS D f x = (11, burnD D) := by unfold putS changeD; rw [if_neg (by rw [hr]; simp), if_pos hd1]
    rw [e]
    simp only
    rw [if_pos (by simp)]
    refine .down rfl (by simp only [DSt.cnt, burnD_sure, burnD_unsure]; unfold DSt.cnt at hc1; omega) fun mask torn => ⟨v, .inl rfl, hold _ (fall_rest _ _ _) ?_⟩
    rw [fall_none (by simp only [burnD_unsure]; exact h.uns), burnD_sure]
  | false =>
  have e : putS D f x = (0, { burnD D with unsure := [⟨1, f, 0, frameB x⟩] }) := by
    unfold putS changeD
    rw [if_neg (by rw [hr]; simp), if_neg (by rw [hd1]; simp), burnD_unsure, h.uns]; rfl
  rw [e]
  simp only
  rw [if_neg (by simp)]
  obtain ⟨D2, hD2⟩ : ∃ D2 : DSt, D2 = { burnD D with unsure := [⟨1, f, 0, frameB x⟩] } := ⟨_, rfl⟩
  rw [← hD2]
  have e2s : D2.sure = D.sure := by rw [hD2]; exact burnD_sure D
  have e2u : D2.unsure = [⟨1, f, 0, frameB x⟩] := by rw [hD2]
  have e2d : D2.down = false := by rw [hD2]; exact hd1
  have e2f : D2.files = fset D.sure f (frameB x) := by
    unfold DSt.files
    rw [e2s, e2u]
    simp only [List.foldl_cons, List.foldl_nil, doF, if_true, hfn, Option.getD_none, putD_new]
  clear hD2 e hr hd1
  -- the sync
  cases hd2 : (burnD D2).down with
  | true =>
    have e : syncD D2 = (11, burnD D2) := by unfold syncD; rw [if_neg (by rw [e2d]; simp), if_pos hd2]
    rw [e]
    simp only
    rw [if_pos (by simp)]
    refine .down rfl (by simp only [DSt.cnt, burnD_sure, burnD_unsure, e2s, e2u, List.length_cons, List.length_nil]; omega) fun mask torn => ?_
    rcases fall_put (D := burnD D2) (by rw [burnD_unsure, e2u]) (by rw [burnD_sure, e2s]; exact hfn) mask torn with h1 | h1 | ⟨t, ht, h1⟩
    · exact ⟨v, .inl rfl, hold _ (fall_rest _ _ _) (by simp only; rw [h1, burnD_sure, e2s])⟩
    · exact ⟨some x, .inr rfl, hnew _ (fall_rest _ _ _) (by simp only; rw [h1, burnD_sure, e2s])⟩
    · exact ⟨v, .inl rfl, htorn _ t (fall_rest _ _ _) ht (by simp only; rw [h1, burnD_sure, e2s])⟩
  | false =>
  have e : syncD D2 = (0, { burnD D2 with sure := D2.files, unsure := [] }) := by unfold syncD; rw [if_neg (by rw [e2d]; simp), if_neg (by rw [hd2]; simp)]
  rw [e]
  simp only
  rw [if_neg (by simp)]
  obtain ⟨D4, hD4⟩ : ∃ D4 : DSt, D4 = { burnD D2 with sure := D2.files, unsure := [] } := ⟨_, rfl⟩
  rw [← hD4]
  have e4s : D4.sure = fset D.sure f (frameB x) := by rw [hD4, ← e2f]
  have e4u : D4.unsure = [] := by rw [hD4]
  have e4d : D4.down = false := by rw [hD4]; exact hd2
  clear hD4 e hd2
  -- the cleaning
  rcases h.files with ⟨hv, e, ho⟩ | ⟨y, n, hv, hy, hnl, e, ho⟩
  · rw [ho, clean_none]
    refine .good rfl ⟨rfl, rfl, e4d, e4u, rfl, rfl, .inr ⟨x, s.last + 1, rfl, hx, Nat.le_refl _, ?_, by rw [hf]⟩⟩ rfl
    simp only
    rw [e4s, e, hf]; rfl
  · have hnn : n < 18446744073709551616 := by omega
    have hne : fileN b n ≠ f := fun e2 => by rw [hf] at e2; have := fileN_inj hnn hkk e2; omega
    have hdel : fdel (fset D.sure f (frameB x)) (fileN b n) = [(f, frameB x)] := by
      rw [e]
      rcases fset_two (X := frameB y) (Y := frameB x) hne with e5 | e5 <;> rw [e5] <;> unfold fdel <;> simp [hne, hne.symm]
    have hrr := refuse_rm (D := D4) e4d (nameOk_file hb hnn)
    rw [ho]
    unfold cleanD
    rw [if_neg (by simp)]
    cases hd4 : (burnD D4).down with
    | true =>
      have er : rmD D4 (fileN b n) = (11, burnD D4) := by unfold rmD changeD; rw [if_neg (by rw [hrr]; simp), if_pos hd4]
      simp only [cleanL, er, show ¬ (11 : Int) = 0 from by decide, if_false]
      refine .down rfl (by simp only [DSt.cnt, burnD_sure, burnD_unsure, e4s, e4u, List.length_nil]; have := hfil (frameB x); omega) fun mask torn => ⟨some x, .inr rfl, hnew _ (fall_rest _ _ _) ?_⟩
      simp only
      rw [fall_none (by rw [burnD_unsure]; exact e4u), burnD_sure, e4s]
    | false =>
    have er : rmD D4 (fileN b n) = (0, { burnD D4 with unsure := [⟨3, fileN b n, 0, []⟩] }) := by
      unfold rmD changeD
      rw [if_neg (by rw [hrr]; simp), if_neg (by rw [hd4]; simp), burnD_unsure, e4u]; rfl
    simp only [cleanL, er, if_true]
    obtain ⟨D6, hD6⟩ : ∃ D6 : DSt, D6 = { burnD D4 with unsure := [⟨3, fileN b n, 0, []⟩] } := ⟨_, rfl⟩
    rw [← hD6]
    have e6s : D6.sure = fset D.sure f (frameB x) := by rw [hD6, ← e4s]; exact burnD_sure D4
    have e6u : D6.unsure = [⟨3, fileN b n, 0, []⟩] := by rw [hD6]
    have e6d : D6.down = false := by rw [hD6]; exact hd4
    have e6f : D6.files = [(f, frameB x)] := by
      unfold DSt.files
      rw [e6s, e6u]
      simp only [List.foldl_cons, List.foldl_nil, doF]
      exact hdel
    clear hD6 er hd4
    cases hd6 : (burnD D6).down with
    | true =>
      have es : syncD D6 = (11, burnD D6) := by unfold syncD; rw [if_neg (by rw [e6d]; simp), if_pos hd6]
      rw [es]
      refine .down rfl (by simp only [DSt.cnt, burnD_sure, burnD_unsure, e6s, e6u, List.length_cons, List.length_nil]; have := hfil (frameB x); omega) fun mask torn => ⟨some x, .inr rfl, ?_⟩
      rcases fall_rm (D := burnD D6) (by rw [burnD_unsure, e6u]) mask torn with h1 | h1
      · exact hnew _ (fall_rest _ _ _) (by simp only; rw [h1, burnD_sure, e6s])
      · exact open_one hb (fall_rest _ _ _) hx (Nat.le_refl _) hkk (by simp only; rw [h1, burnD_sure, e6s, hdel, hf])
    | false =>
      have es : syncD D6 = (0, { burnD D6 with sure := D6.files, unsure := [] }) := by unfold syncD; rw [if_neg (by rw [e6d]; simp), if_neg (by rw [hd6]; simp)]
      rw [es]
      refine .good rfl ⟨rfl, rfl, hd6, rfl, rfl, rfl, .inr ⟨x, s.last + 1, rfl, hx, Nat.le_refl _, ?_, by rw [hf]⟩⟩ rfl
      simp only
      rw [e6f, hf]
/-- A Save that nothing hinders. -/
theorem save_fine {b : Nm} (hb : BaseOk b) {s : Sl} {D : DSt} {v : Option (List UInt8)} (h : Inv b s D v) {x : List UInt8} (hx : x.length ≤ 65520) (hl : s.last < 18446744073709551614) (hf : D.fuse = 0) (hr : (fsize D.files : Int) + x.length + 8 ≤ D.room) :
    (saveS s D x).1 = 0 ∧ Inv b (saveS s D x).2.1 (saveS s D x).2.2 (some x) ∧ (saveS s D x).2.1.last = s.last + 1 ∧ (saveS s D x).2.2.fuse = 0 ∧ (saveS s D x).2.2.room = D.room ∧ (saveS s D x).2.2.files = [(fileN b (s.last + 1), frameB x)] := by
  obtain ⟨hc1, hfs, hsl⟩ := h.cnt
  have hkk : s.last + 1 < 18446744073709551616 := by omega
  have hn := nameOk_file hb hkk
  obtain ⟨f, hff⟩ : ∃ f, f = fileN b (s.last + 1) := ⟨_, rfl⟩
  have hfn : fget D.sure f = none := by
    rcases h.files with ⟨_, e, _⟩ | ⟨y, n, _, _, hnl, e, _⟩
    · rw [e]; rfl
    · rw [e, fget_cons, if_neg]
      · rfl
      · intro e2
        rw [hff] at e2
        have := fileN_inj (by omega) hkk e2
        omega
  have hre : refuseD D ⟨1, f, 0, frameB x⟩ 0 = 0 := by
    unfold refuseD
    have hfl := frame_len x
    rw [if_neg (by rw [h.dd]; simp), if_neg (by rw [hff, hn]; simp), if_neg (by rw [hfs]; omega), if_neg]
    rintro ⟨h1, h2⟩
    have e0 : ((fget D.files f).getD []).length = 0 := by rw [hfs, hfn]; rfl
    simp only [e0, afterN, if_true] at h2
    rw [hfl] at h2
    have : max 0 (0 + (x.length + 8)) = x.length + 8 := by omega
    rw [this] at h2
    omega
  have e1 : putS D f x = (0, { D with unsure := [⟨1, f, 0, frameB x⟩] }) := by
    unfold putS changeD
    rw [if_neg (by rw [hre]; simp), burn_idle hf, if_neg (by rw [h.dd]; simp), h.uns]; rfl
  have e2 : syncD { D with unsure := [⟨1, f, 0, frameB x⟩] } = (0, { D with sure := fset D.sure f (frameB x), unsure := [] }) := by
    rw [sync_idle (D := { D with unsure := [⟨1, f, 0, frameB x⟩] }) h.dd hf]
    simp only [DSt.files, List.foldl_cons, List.foldl_nil, doF, if_true, hfn, Option.getD_none, putD_new]
  have hsv : saveS s D x = ((cleanD s.old { D with sure := fset D.sure f (frameB x), unsure := [] }).1, ⟨s.base, s.last + 1, x, true, [f], decide ((cleanD s.old { D with sure := fset D.sure f (frameB x), unsure := [] }).1 = 11)⟩, (cleanD s.old { D with sure := fset D.sure f (frameB x), unsure := [] }).2) := by
    unfold saveS
    rw [if_neg (by rw [h.up]; simp), if_neg (by omega), h.base, ← hff, e1]
    simp only
    rw [if_neg (by simp), e2]
    simp only
    rw [if_neg (by simp)]
  have key : cleanD s.old { D with sure := fset D.sure f (frameB x), unsure := [] } = (0, { D with sure := [(f, frameB x)], unsure := [] }) := by
    rcases h.files with ⟨_, e, ho⟩ | ⟨y, n, hv, hy, hnl, e, ho⟩
    · rw [ho, clean_none, e]; rfl
    · have hnn : n < 18446744073709551616 := by omega
      have hne : fileN b n ≠ f := fun e2 => by rw [hff] at e2; have := fileN_inj hnn hkk e2; omega
      rw [ho, clean_one (D := { D with sure := fset D.sure f (frameB x), unsure := [] }) h.dd hf rfl (nameOk_file hb hnn)]
      have hdel : fdel (fset D.sure f (frameB x)) (fileN b n) = [(f, frameB x)] := by
        rw [e]
        rcases fset_two (X := frameB y) (Y := frameB x) hne with e5 | e5 <;> rw [e5] <;> unfold fdel <;> simp [hne, hne.symm]
      simp only [hdel]
  rw [hsv, key]
  exact ⟨rfl, ⟨h.base, rfl, h.dd, rfl, rfl, rfl, .inr ⟨x, s.last + 1, rfl, hx, Nat.le_refl _, by rw [hff], by rw [hff]⟩⟩, rfl, hf, rfl, by rw [← hff]; rfl⟩
end Go.Proofs.YtjgonfnpfbifjaaGreatDoor
