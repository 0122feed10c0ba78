/- DskNum: put together by merge.py of: DiskNum, FallNum, RefDNum. -/
import Derived.Sort.EncStr
import Derived.Laws.Strings
/- Plain: files by their names, changes, a disk: no program. -/
namespace Go.Proofs.YtjgonfnpfbifjaaGreatDoor

abbrev Nm := List UInt8
/-- Files, rising by name. -/
abbrev FS := List (Nm × List UInt8)
/-- A change. -/
structure Wr where
  kind : Int
  name : Nm
  off : Nat
  data : List UInt8

def resizeD (b : List UInt8) (n : Nat) : List UInt8 := b.take n ++ List.replicate (n - b.length) 0
def putD (b : List UInt8) (off : Nat) (d : List UInt8) : List UInt8 :=
  (resizeD b (max b.length (off + d.length))).take off ++ d ++ (resizeD b (max b.length (off + d.length))).drop (off + d.length)
theorem resizeD_len (b : List UInt8) (n : Nat) : (resizeD b n).length = n := by
  unfold resizeD; rw [List.length_append, List.length_take, List.length_replicate]; omega
theorem putD_len (b : List UInt8) (off : Nat) (d : List UInt8) : (putD b off d).length = max b.length (off + d.length) := by
  unfold putD
  rw [List.length_append, List.length_append, List.length_take, List.length_drop, resizeD_len]
  omega

def fget (F : FS) (n : Nm) : Option (List UInt8) := (F.find? (fun p => p.1 = n)).map Prod.snd
def fset : FS → Nm → List UInt8 → FS
  | [], n, b => [(n, b)]
  | (m, c) :: r, n, b => if m < n then (m, c) :: fset r n b else if m = n then (n, b) :: r else (n, b) :: (m, c) :: r
def fdel (F : FS) (n : Nm) : FS := F.filter (fun p => p.1 ≠ n)
def Rising (F : FS) : Prop := F.Pairwise (fun p q => p.1 < q.1)
def fsize (F : FS) : Nat := (F.map (fun p => p.2.length)).sum
def doF (F : FS) (w : Wr) : FS :=
  if w.kind = 1 then fset F w.name (putD ((fget F w.name).getD []) w.off w.data)
  else if w.kind = 2 then fset F w.name (resizeD ((fget F w.name).getD []) w.off)
  else if w.kind = 3 then fdel F w.name else F

theorem nm_lt_irrefl (a : Nm) : ¬ a < a := List.lt_irrefl a
theorem nm_trans {a b c : Nm} (h : a < b) (k : b < c) : a < c := List.lt_trans h k
theorem nm_tri (a b : Nm) (h : ¬ a < b) (hne : a ≠ b) : b < a := by
  rcases List.le_total a b with h1 | h1
  · rcases Nat.lt_or_ge 0 1 with _ | _
    · exact absurd (List.le_antisymm h1 (List.not_lt.1 h)) hne
    · omega
  · by_cases h2 : b < a
    · exact h2
    · exact absurd (List.le_antisymm (List.not_lt.1 h2) h1) hne

theorem fget_nil (n : Nm) : fget [] n = none := rfl
theorem fget_cons (p : Nm × List UInt8) (F : FS) (n : Nm) : fget (p :: F) n = if p.1 = n then some p.2 else fget F n := by
  unfold fget
  rw [List.find?_cons]
  by_cases h : p.1 = n
  · simp [h]
  · simp [h]
theorem fget_fset (F : FS) (n : Nm) (b : List UInt8) (m : Nm) : fget (fset F n b) m = if m = n then some b else fget F m := by
  induction F with
  | nil =>
    rw [fset, fget_cons]
    by_cases h : n = m
    · subst h; simp
    · rw [if_neg h, if_neg (fun e => h e.symm)]
  | cons p r ih =>
    obtain ⟨k, c⟩ := p
    rw [fset]
    split
    · rename_i hk
      rw [fget_cons, fget_cons, ih]
      by_cases h : k = m
      · subst h
        simp only [if_pos]
        rw [if_neg (fun e => by subst e; exact nm_lt_irrefl _ hk)]
      · simp only [if_neg h]
    · split
      · rename_i hk
        subst hk
        rw [fget_cons, fget_cons]
        by_cases h : k = m
        · subst h; simp
        · simp only [if_neg h]; rw [if_neg (fun e => h e.symm)]
      · rw [fget_cons]
        by_cases h : n = m
        · subst h; simp
        · simp only [if_neg h]; rw [if_neg (fun e => h e.symm)]
theorem fget_fdel (F : FS) (n m : Nm) : fget (fdel F n) m = if m = n then none else fget F m := by
  induction F with
  | nil => simp [fdel, fget]
  | cons p r ih =>
    unfold fdel at ih ⊢
    rw [List.filter_cons]
    by_cases h : p.1 = n
    · rw [if_neg (by simpa using h), ih, fget_cons]
      by_cases hm : m = n
      · simp only [if_pos hm]
      · rw [if_neg hm, if_neg hm, if_neg (fun e => hm (by rw [← e, h]))]
    · rw [if_pos (by simpa using h), fget_cons, fget_cons, ih]
      by_cases hm : p.1 = m
      · rw [if_pos hm, if_pos hm, if_neg (fun e => h (by rw [hm, e]))]
      · rw [if_neg hm, if_neg hm]
theorem fset_mem {F : FS} {n : Nm} {b : List UInt8} {p : Nm × List UInt8} (h : p ∈ fset F n b) : p = (n, b) ∨ p ∈ F := by
  induction F with
  | nil => rw [fset] at h; simpa using h
  | cons q r ih =>
    obtain ⟨k, c⟩ := q
    rw [fset] at h
    split at h
    · rcases List.mem_cons.1 h with h | h
      · exact .inr (by rw [h]; simp)
      · rcases ih h with h | h
        · exact .inl h
        · exact .inr (List.mem_cons_of_mem _ h)
    · split at h
      · rcases List.mem_cons.1 h with h | h
        · exact .inl h
        · exact .inr (List.mem_cons_of_mem _ h)
      · rcases List.mem_cons.1 h with h | h
        · exact .inl h
        · exact .inr h
theorem rising_fset {F : FS} (h : Rising F) (n : Nm) (b : List UInt8) : Rising (fset F n b) := by
  induction F with
  | nil => rw [fset]; exact List.pairwise_singleton _ _
  | cons q r ih =>
    obtain ⟨k, c⟩ := q
    have h' := List.pairwise_cons.1 h
    rw [fset]
    split
    · rename_i hk
      refine List.pairwise_cons.2 ⟨fun p hp => ?_, ih h'.2⟩
      rcases fset_mem hp with hp | hp
      · rw [hp]; exact hk
      · exact h'.1 p hp
    · rename_i hk
      split
      · rename_i hk2
        subst hk2
        exact List.pairwise_cons.2 ⟨h'.1, h'.2⟩
      · rename_i hk2
        have hlt := nm_tri k n hk hk2
        refine List.pairwise_cons.2 ⟨fun p hp => ?_, h⟩
        rcases List.mem_cons.1 hp with hp | hp
        · rw [hp]; exact hlt
        · exact nm_trans hlt (h'.1 p hp)
theorem rising_fdel {F : FS} (h : Rising F) (n : Nm) : Rising (fdel F n) := h.sublist List.filter_sublist
theorem rising_do {F : FS} (h : Rising F) (w : Wr) : Rising (doF F w) := by
  unfold doF
  split
  · exact rising_fset h _ _
  · split
    · exact rising_fset h _ _
    · split
      · exact rising_fdel h _
      · exact h
theorem rising_nodup {F : FS} (h : Rising F) : (F.map Prod.fst).Nodup := by
  unfold List.Nodup
  rw [List.pairwise_map]
  exact h.imp fun {p q} hpq e => by rw [e] at hpq; exact nm_lt_irrefl _ hpq
theorem fget_mem {F : FS} {n : Nm} {b : List UInt8} (h : fget F n = some b) : (n, b) ∈ F := by
  unfold fget at h
  obtain ⟨p, hp, hb⟩ := Option.map_eq_some_iff.1 h
  have h1 := List.mem_of_find?_eq_some hp
  have h2 := List.find?_some hp
  simp at h2
  rw [← h2, ← hb]
  exact h1
theorem fget_of_mem {F : FS} (hn : (F.map Prod.fst).Nodup) {n : Nm} {b : List UInt8} (h : (n, b) ∈ F) : fget F n = some b := by
  induction F with
  | nil => simp at h
  | cons p r ih =>
    rw [List.map_cons, List.nodup_cons] at hn
    rw [fget_cons]
    rcases List.mem_cons.1 h with h | h
    · subst h; simp
    · rw [if_neg, ih hn.2 h]
      intro e
      exact hn.1 (e ▸ List.mem_map.2 ⟨_, h, rfl⟩)
theorem fget_none {F : FS} {n : Nm} : fget F n = none ↔ n ∉ F.map Prod.fst := by
  unfold fget
  rw [Option.map_eq_none_iff, List.find?_eq_none]
  constructor
  · intro h hm
    obtain ⟨p, hp, e⟩ := List.mem_map.1 hm
    exact h p hp (by simpa using e)
  · intro h p hp e
    exact h (List.mem_map.2 ⟨p, hp, by simpa using e⟩)
end Go.Proofs.YtjgonfnpfbifjaaGreatDoor
/- Plain: what a fall keeps of the changes. -/
namespace Go.Proofs.YtjgonfnpfbifjaaGreatDoor

/-- The bit of a mask that speaks of the k-th change. -/
def bitAt (mask : Nat) (k : Nat) : Bool := mask / 2 ^ (k % 64) % 2 == 1
theorem bit_one {mask k : Nat} (h : bitAt mask k = true) : ((mask : Int) / 2 ^ (k % 64)).tmod 2 = 1 := by
  unfold bitAt at h
  have h' : mask / 2 ^ (k % 64) % 2 = 1 := by simpa using h
  rw [Int.tmod_eq_emod_of_nonneg (Int.ediv_nonneg (by omega) (Int.pow_nonneg (by decide)))]
  have e : ((mask : Int) / 2 ^ (k % 64)) = ((mask / 2 ^ (k % 64) : Nat) : Int) := by push_cast; rfl
  rw [e]
  omega
theorem bit_zero {mask k : Nat} (h : bitAt mask k = false) : ((mask : Int) / 2 ^ (k % 64)).tmod 2 = 0 := by
  unfold bitAt at h
  have h' : ¬ mask / 2 ^ (k % 64) % 2 = 1 := by simpa using h
  rw [Int.tmod_eq_emod_of_nonneg (Int.ediv_nonneg (by omega) (Int.pow_nonneg (by decide)))]
  have e : ((mask : Int) / 2 ^ (k % 64)) = ((mask / 2 ^ (k % 64) : Nat) : Int) := by push_cast; rfl
  rw [e]
  omega
def keepAt (mask : Nat) : Nat → List Wr → List Wr
  | _, [] => []
  | k, u :: r => if bitAt mask k = true then u :: keepAt mask (k + 1) r else keepAt mask (k + 1) r
def isPut (u : Wr) : Bool := u.kind == 1
def cutW (torn : Int) (u : Wr) : Wr := if 0 ≤ torn ∧ torn < (u.data.length : Int) then { u with data := u.data.take torn.toNat } else u
/-- The last data that were put are torn. -/
def cutLast (torn : Int) : List Wr → List Wr
  | [] => []
  | u :: r => if r.any isPut = true then u :: cutLast torn r else if isPut u = true then cutW torn u :: r else u :: r
def fallUs (mask : Nat) (torn : Int) (us : List Wr) : List Wr := cutLast torn (keepAt mask 0 us)

theorem keepAt_snoc (mask : Nat) (u : Wr) : ∀ (l : List Wr) (k : Nat), keepAt mask k (l ++ [u]) = keepAt mask k l ++ if bitAt mask (k + l.length) = true then [u] else []
  | [], k => by simp [keepAt]
  | a :: r, k => by
    have ih := keepAt_snoc mask u r (k + 1)
    rw [List.cons_append, keepAt, keepAt, ih, List.length_cons, show k + 1 + r.length = k + (r.length + 1) from by omega]
    split <;> simp
/-- The last put among those that are kept, by its number. -/
def lastPut (mask : Nat) : Nat → List Wr → Int
  | _, [] => -1
  | k, u :: r => if 0 ≤ lastPut mask (k + 1) r then lastPut mask (k + 1) r else if bitAt mask k = true ∧ isPut u = true then (k : Int) else -1
def keepCut (mask : Nat) (last torn : Int) : Nat → List Wr → List Wr
  | _, [] => []
  | k, u :: r => if bitAt mask k = true then (if (k : Int) = last then cutW torn u else u) :: keepCut mask last torn (k + 1) r else keepCut mask last torn (k + 1) r
theorem lastPut_ge (mask : Nat) : ∀ (l : List Wr) (k : Nat), lastPut mask k l = -1 ∨ (k : Int) ≤ lastPut mask k l
  | [], k => .inl rfl
  | u :: r, k => by
    have ih := lastPut_ge mask r (k + 1)
    rw [lastPut]
    split
    · omega
    · split <;> omega
theorem lastPut_snoc (mask : Nat) (u : Wr) : ∀ (l : List Wr) (k : Nat), lastPut mask k (l ++ [u]) = if bitAt mask (k + l.length) = true ∧ isPut u = true then ((k + l.length : Nat) : Int) else lastPut mask k l
  | [], k => by simp [lastPut]
  | a :: r, k => by
    have ih := lastPut_snoc mask u r (k + 1)
    rw [List.cons_append, lastPut, ih, List.length_cons, show k + 1 + r.length = k + (r.length + 1) from by omega]
    split
    · rw [if_pos (by omega)]
    · rw [lastPut]
theorem keepCut_snoc (mask : Nat) (last torn : Int) (u : Wr) : ∀ (l : List Wr) (k : Nat), keepCut mask last torn k (l ++ [u]) = keepCut mask last torn k l ++ if bitAt mask (k + l.length) = true then [if ((k + l.length : Nat) : Int) = last then cutW torn u else u] else []
  | [], k => by simp [keepCut]
  | a :: r, k => by
    have ih := keepCut_snoc mask last torn u r (k + 1)
    rw [List.cons_append, keepCut, keepCut, ih, List.length_cons, show k + 1 + r.length = k + (r.length + 1) from by omega]
    split <;> simp
theorem keepCut_lt (mask : Nat) (last torn : Int) : ∀ (l : List Wr) (k : Nat), last < (k : Int) → keepCut mask last torn k l = keepAt mask k l
  | [], _, _ => rfl
  | u :: r, k, h => by
    rw [keepCut, keepAt, keepCut_lt mask last torn r (k + 1) (by omega), if_neg (show ¬ (k : Int) = last by omega)]
theorem any_put (mask : Nat) : ∀ (l : List Wr) (k : Nat), (keepAt mask k l).any isPut = decide (0 ≤ lastPut mask k l)
  | [], _ => by simp [keepAt, lastPut]
  | u :: r, k => by
    have ih := any_put mask r (k + 1)
    have hg := lastPut_ge mask r (k + 1)
    rw [keepAt, lastPut]
    by_cases hb : bitAt mask k = true
    · rw [if_pos hb, List.any_cons, ih]
      by_cases h0 : 0 ≤ lastPut mask (k + 1) r
      · rw [if_pos h0]; simp [h0]
      · rw [if_neg h0]
        by_cases hp : isPut u = true
        · rw [if_pos ⟨hb, hp⟩, hp]; simp
        · rw [if_neg (fun h => hp h.2)]; simp [hp, h0]
    · rw [if_neg hb, ih]
      by_cases h0 : 0 ≤ lastPut mask (k + 1) r
      · rw [if_pos h0]
      · rw [if_neg h0, if_neg (fun h => hb h.1)]; simp [h0]
theorem keepCut_eq (mask : Nat) (torn : Int) : ∀ (l : List Wr) (k : Nat), keepCut mask (lastPut mask k l) torn k l = cutLast torn (keepAt mask k l)
  | [], _ => rfl
  | u :: r, k => by
    have ih := keepCut_eq mask torn r (k + 1)
    have hg := lastPut_ge mask r (k + 1)
    have ha := any_put mask r (k + 1)
    rw [lastPut]
    by_cases h0 : 0 ≤ lastPut mask (k + 1) r
    · rw [if_pos h0, keepCut, keepAt, ih, if_neg (show ¬ (k : Int) = lastPut mask (k + 1) r by omega)]
      split
      · rw [cutLast, if_pos (by rw [ha]; simpa using h0)]
      · rfl
    · rw [if_neg h0]
      have hn : (keepAt mask (k + 1) r).any isPut = false := by rw [ha]; simpa using h0
      have hc : cutLast torn (keepAt mask (k + 1) r) = keepAt mask (k + 1) r := by
        rw [← ih]
        exact keepCut_lt _ _ _ _ _ (by omega)
      by_cases hb : bitAt mask k = true
      · by_cases hp : isPut u = true
        · rw [if_pos ⟨hb, hp⟩, keepCut, keepAt, if_pos hb, if_pos hb, if_pos rfl, cutLast, if_neg (by rw [hn]; simp), if_pos hp, keepCut_lt _ _ _ _ _ (by omega)]
        · rw [if_neg (fun h => hp h.2), keepCut, keepAt, if_pos hb, if_pos hb, if_neg (by omega), cutLast, if_neg (by rw [hn]; simp), if_neg hp, keepCut_lt _ _ _ _ _ (by omega)]
      · rw [if_neg (fun h => hb h.1), keepCut, keepAt, if_neg hb, if_neg hb, hc, keepCut_lt _ _ _ _ _ (by omega)]
theorem keepCut_mem {mask : Nat} {last torn : Int} {v : Wr} : ∀ {l : List Wr} {k : Nat}, v ∈ keepCut mask last torn k l → ∃ u ∈ l, v = u ∨ v = cutW torn u
  | [], _, h => by simp [keepCut] at h
  | u :: r, k, h => by
    rw [keepCut] at h
    split at h
    · rcases List.mem_cons.1 h with h | h
      · refine ⟨u, by simp, ?_⟩
        split at h
        · exact .inr h
        · exact .inl h
      · obtain ⟨x, hx, e⟩ := keepCut_mem h
        exact ⟨x, List.mem_cons_of_mem _ hx, e⟩
    · obtain ⟨x, hx, e⟩ := keepCut_mem h
      exact ⟨x, List.mem_cons_of_mem _ hx, e⟩
theorem lastPut_lt (mask : Nat) : ∀ (l : List Wr) (k : Nat), lastPut mask k l < ((k + l.length : Nat) : Int)
  | [], k => by simp [lastPut]; omega
  | u :: r, k => by
    have ih := lastPut_lt mask r (k + 1)
    rw [lastPut, List.length_cons]
    split
    · omega
    · split <;> omega
/-- The place of the last put of a list. -/
def lastIx : List Wr → Int
  | [] => -1
  | u :: r => if r.any isPut = true then lastIx r + 1 else if isPut u = true then 0 else -1
theorem lastIx_none : ∀ (l : List Wr), l.any isPut = false → lastIx l = -1
  | [], _ => rfl
  | u :: r, h => by
    rw [List.any_cons, Bool.or_eq_false_iff] at h
    rw [lastIx, if_neg (by rw [h.2]; simp), if_neg (by rw [h.1]; simp)]
theorem lastIx_some : ∀ (l : List Wr), l.any isPut = true → 0 ≤ lastIx l ∧ lastIx l < (l.length : Int)
  | [], h => by simp at h
  | u :: r, h => by
    rw [lastIx, List.length_cons]
    by_cases hr : r.any isPut = true
    · have := lastIx_some r hr
      rw [if_pos hr]
      omega
    · rw [if_neg hr, if_pos (by rw [List.any_cons] at h; simpa [hr] using h)]
      omega
theorem lastIx_snoc (u : Wr) : ∀ (l : List Wr), lastIx (l ++ [u]) = if isPut u = true then (l.length : Int) else lastIx l
  | [] => by simp [lastIx]
  | a :: r => by
    have ih := lastIx_snoc u r
    rw [List.cons_append, lastIx, ih, List.any_append, List.length_cons, lastIx]
    by_cases hu : isPut u = true
    · simp [hu]
    · simp [hu]
theorem cutLast_eq (torn : Int) : ∀ (l : List Wr), cutLast torn l = if h : 0 ≤ lastIx l ∧ (lastIx l).toNat < l.length then l.set (lastIx l).toNat (cutW torn l[(lastIx l).toNat]) else l
  | [] => by simp [cutLast]
  | u :: r => by
    have ih := cutLast_eq torn r
    by_cases hr : r.any isPut = true
    · have hs := lastIx_some r hr
      have e : lastIx (u :: r) = lastIx r + 1 := by rw [lastIx, if_pos hr]
      have e2 : (lastIx r + 1).toNat = (lastIx r).toNat + 1 := by omega
      rw [cutLast, if_pos hr, ih, dif_pos (by omega), dif_pos (by rw [e, e2, List.length_cons]; omega)]
      simp only [e, e2, List.set_cons_succ, List.getElem_cons_succ]
    · by_cases hp : isPut u = true
      · have e : lastIx (u :: r) = 0 := by rw [lastIx, if_neg hr, if_pos hp]
        rw [cutLast, if_neg hr, if_pos hp, dif_pos (by rw [e]; simp)]
        simp [e]
      · have e : lastIx (u :: r) = -1 := by rw [lastIx, if_neg hr, if_neg hp]
        rw [cutLast, if_neg hr, if_neg hp, dif_neg (by rw [e]; simp)]
end Go.Proofs.YtjgonfnpfbifjaaGreatDoor
/- Plain: the reference's files: where a name stands in a list that rises. -/
namespace Go.Proofs.YtjgonfnpfbifjaaGreatDoor

theorem bytesLess_lt (a b : List UInt8) : Op.bytesLess a b = decide (a < b) := by
  induction a generalizing b with
  | nil =>
    cases b with
    | nil => simp [Op.bytesLess]
    | cons y r => simp [Op.bytesLess]
  | cons x l ih =>
    cases b with
    | nil => simp [Op.bytesLess]
    | cons y r =>
      rw [Op.bytesLess, ih, Bool.eq_iff_iff]
      simp [List.cons_lt_cons_iff]
def fpos : FS → Nm → Nat
  | [], _ => 0
  | p :: r, n => if p.1 < n then fpos r n + 1 else 0
def fat : FS → Nm → Bool
  | [], _ => false
  | p :: r, n => if p.1 < n then fat r n else decide (p.1 = n)
theorem fpos_le (F : FS) (n : Nm) : fpos F n ≤ F.length := by
  induction F with
  | nil => simp [fpos]
  | cons p r ih => rw [fpos]; split <;> simp <;> omega
theorem fpos_end {F : FS} {n : Nm} (h : ∀ j (hj : j < F.length), F[j].1 < n) : fpos F n = F.length ∧ fat F n = false := by
  induction F with
  | nil => simp [fpos, fat]
  | cons p r ih =>
    have h0 := h 0 (by simp)
    simp only [List.getElem_cons_zero] at h0
    have := ih (fun j hj => by have := h (j + 1) (by simp; omega); simpa using this)
    rw [fpos, fat, if_pos h0, if_pos h0, this.1, this.2]
    simp
theorem fpos_at {F : FS} {n : Nm} {k : Nat} (hk : k < F.length) (h : ∀ j (hj : j < k), F[j].1 < n) (h0 : ¬ F[k].1 < n) : fpos F n = k ∧ fat F n = decide (F[k].1 = n) := by
  induction F generalizing k with
  | nil => simp at hk
  | cons p r ih =>
    cases k with
    | zero =>
      simp only [List.getElem_cons_zero] at h0
      rw [fpos, fat, if_neg h0, if_neg h0]
      simp
    | succ k =>
      have h1 := h 0 (by omega)
      simp only [List.getElem_cons_zero] at h1
      have := ih (k := k) (by simpa using hk) (fun j hj => by have := h (j + 1) (by omega); simpa using this) (by simpa using h0)
      rw [fpos, fat, if_pos h1, if_pos h1, this.1, this.2]
      simp
theorem fat_lt {F : FS} {n : Nm} (h : fat F n = true) : fpos F n < F.length := by
  induction F with
  | nil => simp [fat] at h
  | cons p r ih =>
    rw [fat] at h
    rw [fpos]
    split
    · rename_i hp; rw [if_pos hp] at h; have := ih h; simp; omega
    · simp
theorem fset_eq (F : FS) (n : Nm) (b : List UInt8) : fset F n b = F.take (fpos F n) ++ (n, b) :: F.drop (fpos F n + if fat F n = true then 1 else 0) := by
  induction F with
  | nil => simp [fset, fpos, fat]
  | cons p r ih =>
    obtain ⟨m, c⟩ := p
    rw [fset, fpos, fat]
    split
    · rename_i h
      rw [ih]
      simp only [List.take_succ_cons, List.cons_append, List.cons.injEq, true_and]
      rw [show fpos r n + 1 + (if fat r n = true then 1 else 0) = (fpos r n + if fat r n = true then 1 else 0) + 1 from by omega, List.drop_succ_cons]
    · split
      · rename_i h; simp [h]
      · rename_i h; simp [h]
theorem fget_above {F : FS} (hr : Rising F) {n : Nm} {p : Nm × List UInt8} (hp : ∀ q ∈ p :: F, p.1 ≤ q.1) (h : ¬ p.1 < n) (hne : p.1 ≠ n) : fget (p :: F) n = none := by
  rw [fget_none]
  intro hm
  obtain ⟨q, hq, e⟩ := List.mem_map.1 hm
  have h1 := hp q hq
  rw [e] at h1
  have h2 := nm_tri p.1 n h hne
  exact h1 h2
theorem fget_fat {F : FS} (hr : Rising F) (n : Nm) : fget F n = if h : fat F n = true then some (F[fpos F n]'(fat_lt h)).2 else none := by
  induction F with
  | nil => simp [fat, fget]
  | cons p r ih =>
    have hr' := List.pairwise_cons.1 hr
    by_cases h : p.1 < n
    · have e1 : fat (p :: r) n = fat r n := by rw [fat, if_pos h]
      have e2 : fpos (p :: r) n = fpos r n + 1 := by rw [fpos, if_pos h]
      rw [fget_cons, if_neg (fun e => by rw [e] at h; exact nm_lt_irrefl _ h), ih hr'.2]
      simp only [e1, e2, List.getElem_cons_succ]
    · by_cases hne : p.1 = n
      · have e1 : fat (p :: r) n = true := by rw [fat, if_neg h]; simpa using hne
        have e2 : fpos (p :: r) n = 0 := by rw [fpos, if_neg h]
        rw [fget_cons, if_pos hne, dif_pos e1]
        simp only [e2, List.getElem_cons_zero]
      · have e1 : fat (p :: r) n = false := by rw [fat, if_neg h]; simpa using hne
        rw [dif_neg (by rw [e1]; simp)]
        refine fget_above hr'.2 (fun q hq => ?_) h hne
        rcases List.mem_cons.1 hq with rfl | hq
        · exact List.le_refl _
        · exact List.le_of_lt (hr'.1 q hq)
theorem fget_isSome {F : FS} (hr : Rising F) (n : Nm) : (fget F n).isSome = fat F n := by
  rw [fget_fat hr]
  split
  · rename_i h; simp [h]
  · rename_i h; simpa using h
theorem fdel_eq {F : FS} (hr : Rising F) (n : Nm) : fdel F n = if fat F n = true then F.take (fpos F n) ++ F.drop (fpos F n + 1) else F := by
  induction F with
  | nil => simp [fdel, fat]
  | cons p r ih =>
    have hr' := List.pairwise_cons.1 hr
    have ih' := ih hr'.2
    unfold fdel at ih' ⊢
    by_cases h : p.1 < n
    · have hne : p.1 ≠ n := fun e => by rw [e] at h; exact nm_lt_irrefl _ h
      rw [List.filter_cons, if_pos (by simpa using hne), ih']
      simp only [fat, if_pos h, fpos, List.take_succ_cons, List.drop_succ_cons, List.cons_append]
      split <;> rfl
    · by_cases hne : p.1 = n
      · rw [List.filter_cons, if_neg (by simpa using hne)]
        have e1 : fat (p :: r) n = true := by rw [fat, if_neg h]; simpa using hne
        have e2 : fpos (p :: r) n = 0 := by rw [fpos, if_neg h]
        rw [e1, e2]
        simp only [if_true, List.take_zero, List.nil_append, Nat.zero_add, List.drop_succ_cons, List.drop_zero]
        rw [List.filter_eq_self]
        intro q hq
        have := hr'.1 q hq
        simp only [ne_eq, decide_not, Bool.not_eq_eq_eq_not, Bool.not_true, decide_eq_false_iff_not]
        intro e
        rw [hne, ← e] at this
        exact nm_lt_irrefl _ this
      · have e1 : fat (p :: r) n = false := by rw [fat, if_neg h]; simpa using hne
        rw [e1]
        simp only [Bool.false_eq_true, if_false]
        rw [List.filter_eq_self]
        intro q hq
        simp only [ne_eq, decide_not, Bool.not_eq_eq_eq_not, Bool.not_true, decide_eq_false_iff_not]
        intro e
        have := fget_none.1 (fget_above hr'.2 (fun q hq => by
          rcases List.mem_cons.1 hq with rfl | hq
          · exact List.le_refl _
          · exact List.le_of_lt (hr'.1 q hq)) h hne)
        exact this (List.mem_map.2 ⟨q, hq, e⟩)
end Go.Proofs.YtjgonfnpfbifjaaGreatDoor
