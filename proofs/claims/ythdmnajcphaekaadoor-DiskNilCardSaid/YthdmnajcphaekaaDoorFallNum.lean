/- Plain: what a fall keeps of the changes. -/
import Derived.Test.YthdmnajcphaekaaDoorDiskNum
namespace Go.Proofs.YthdmnajcphaekaaDoor

/-- The bit of a mask that speaks of the k-th change. -/
def bitAt (mask : Nat) (k : Nat) : Bool := mask / 2 ^ (k % 64) % 2 == 1
theorem bit_one {mask k : Nat} (h : bitAt mask k = true) : ((mask : Int) / 2 ^ (k % 64)).tmod 2 = 1 := by
  unfold bitAt at h
  have h' : mask / 2 ^ (k % 64) % 2 = 1 := by simpa using h
  rw [Int.tmod_eq_emod_of_nonneg (Int.ediv_nonneg (by omega) (Int.pow_nonneg (by decide)))]
  have e : ((mask : Int) / 2 ^ (k % 64)) = ((mask / 2 ^ (k % 64) : Nat) : Int) := by push_cast; rfl
  rw [e]
  omega
theorem bit_zero {mask k : Nat} (h : bitAt mask k = false) : ((mask : Int) / 2 ^ (k % 64)).tmod 2 = 0 := by
  unfold bitAt at h
  have h' : ¬ mask / 2 ^ (k % 64) % 2 = 1 := by simpa using h
  rw [Int.tmod_eq_emod_of_nonneg (Int.ediv_nonneg (by omega) (Int.pow_nonneg (by decide)))]
  have e : ((mask : Int) / 2 ^ (k % 64)) = ((mask / 2 ^ (k % 64) : Nat) : Int) := by push_cast; rfl
  rw [e]
  omega
def keepAt (mask : Nat) : Nat → List Wr → List Wr
  | _, [] => []
  | k, u :: r => if bitAt mask k = true then u :: keepAt mask (k + 1) r else keepAt mask (k + 1) r
def isPut (u : Wr) : Bool := u.kind == 1
def cutW (torn : Int) (u : Wr) : Wr := if 0 ≤ torn ∧ torn < (u.data.length : Int) then { u with data := u.data.take torn.toNat } else u
/-- The last data that were put are torn. -/
def cutLast (torn : Int) : List Wr → List Wr
  | [] => []
  | u :: r => if r.any isPut = true then u :: cutLast torn r else if isPut u = true then cutW torn u :: r else u :: r
def fallUs (mask : Nat) (torn : Int) (us : List Wr) : List Wr := cutLast torn (keepAt mask 0 us)

theorem keepAt_snoc (mask : Nat) (u : Wr) : ∀ (l : List Wr) (k : Nat), keepAt mask k (l ++ [u]) = keepAt mask k l ++ if bitAt mask (k + l.length) = true then [u] else []
  | [], k => by simp [keepAt]
  | a :: r, k => by
    have ih := keepAt_snoc mask u r (k + 1)
    rw [List.cons_append, keepAt, keepAt, ih, List.length_cons, show k + 1 + r.length = k + (r.length + 1) from by omega]
    split <;> simp
/-- The last put among those that are kept, by its number. -/
def lastPut (mask : Nat) : Nat → List Wr → Int
  | _, [] => -1
  | k, u :: r => if 0 ≤ lastPut mask (k + 1) r then lastPut mask (k + 1) r else if bitAt mask k = true ∧ isPut u = true then (k : Int) else -1
def keepCut (mask : Nat) (last torn : Int) : Nat → List Wr → List Wr
  | _, [] => []
  | k, u :: r => if bitAt mask k = true then (if (k : Int) = last then cutW torn u else u) :: keepCut mask last torn (k + 1) r else keepCut mask last torn (k + 1) r
theorem lastPut_ge (mask : Nat) : ∀ (l : List Wr) (k : Nat), lastPut mask k l = -1 ∨ (k : Int) ≤ lastPut mask k l
  | [], k => .inl rfl
  | u :: r, k => by
    have ih := lastPut_ge mask r (k + 1)
    rw [lastPut]
    split
    · omega
    · split <;> omega
theorem lastPut_snoc (mask : Nat) (u : Wr) : ∀ (l : List Wr) (k : Nat), lastPut mask k (l ++ [u]) = if bitAt mask (k + l.length) = true ∧ isPut u = true then ((k + l.length : Nat) : Int) else lastPut mask k l
  | [], k => by simp [lastPut]
  | a :: r, k => by
    have ih := lastPut_snoc mask u r (k + 1)
    rw [List.cons_append, lastPut, ih, List.length_cons, show k + 1 + r.length = k + (r.length + 1) from by omega]
    split
    · rw [if_pos (by omega)]
    · rw [lastPut]
theorem keepCut_snoc (mask : Nat) (last torn : Int) (u : Wr) : ∀ (l : List Wr) (k : Nat), keepCut mask last torn k (l ++ [u]) = keepCut mask last torn k l ++ if bitAt mask (k + l.length) = true then [if ((k + l.length : Nat) : Int) = last then cutW torn u else u] else []
  | [], k => by simp [keepCut]
  | a :: r, k => by
    have ih := keepCut_snoc mask last torn u r (k + 1)
    rw [List.cons_append, keepCut, keepCut, ih, List.length_cons, show k + 1 + r.length = k + (r.length + 1) from by omega]
    split <;> simp
theorem keepCut_lt (mask : Nat) (last torn : Int) : ∀ (l : List Wr) (k : Nat), last < (k : Int) → keepCut mask last torn k l = keepAt mask k l
  | [], _, _ => rfl
  | u :: r, k, h => by
    rw [keepCut, keepAt, keepCut_lt mask last torn r (k + 1) (by omega), if_neg (show ¬ (k : Int) = last by omega)]
theorem any_put (mask : Nat) : ∀ (l : List Wr) (k : Nat), (keepAt mask k l).any isPut = decide (0 ≤ lastPut mask k l)
  | [], _ => by simp [keepAt, lastPut]
  | u :: r, k => by
    have ih := any_put mask r (k + 1)
    have hg := lastPut_ge mask r (k + 1)
    rw [keepAt, lastPut]
    by_cases hb : bitAt mask k = true
    · rw [if_pos hb, List.any_cons, ih]
      by_cases h0 : 0 ≤ lastPut mask (k + 1) r
      · rw [if_pos h0]; simp [h0]
      · rw [if_neg h0]
        by_cases hp : isPut u = true
        · rw [if_pos ⟨hb, hp⟩, hp]; simp
        · rw [if_neg (fun h => hp h.2)]; simp [hp, h0]
    · rw [if_neg hb, ih]
      by_cases h0 : 0 ≤ lastPut mask (k + 1) r
      · rw [if_pos h0]
      · rw [if_neg h0, if_neg (fun h => hb h.1)]; simp [h0]
theorem keepCut_eq (mask : Nat) (torn : Int) : ∀ (l : List Wr) (k : Nat), keepCut mask (lastPut mask k l) torn k l = cutLast torn (keepAt mask k l)
  | [], _ => rfl
  | u :: r, k => by
    have ih := keepCut_eq mask torn r (k + 1)
    have hg := lastPut_ge mask r (k + 1)
    have ha := any_put mask r (k + 1)
    rw [lastPut]
    by_cases h0 : 0 ≤ lastPut mask (k + 1) r
    · rw [if_pos h0, keepCut, keepAt, ih, if_neg (show ¬ (k : Int) = lastPut mask (k + 1) r by omega)]
      split
      · rw [cutLast, if_pos (by rw [ha]; simpa using h0)]
      · rfl
    · rw [if_neg h0]
      have hn : (keepAt mask (k + 1) r).any isPut = false := by rw [ha]; simpa using h0
      have hc : cutLast torn (keepAt mask (k + 1) r) = keepAt mask (k + 1) r := by
        rw [← ih]
        exact keepCut_lt _ _ _ _ _ (by omega)
      by_cases hb : bitAt mask k = true
      · by_cases hp : isPut u = true
        · rw [if_pos ⟨hb, hp⟩, keepCut, keepAt, if_pos hb, if_pos hb, if_pos rfl, cutLast, if_neg (by rw [hn]; simp), if_pos hp, keepCut_lt _ _ _ _ _ (by omega)]
        · rw [if_neg (fun h => hp h.2), keepCut, keepAt, if_pos hb, if_pos hb, if_neg (by omega), cutLast, if_neg (by rw [hn]; simp), if_neg hp, keepCut_lt _ _ _ _ _ (by omega)]
      · rw [if_neg (fun h => hb h.1), keepCut, keepAt, if_neg hb, if_neg hb, hc, keepCut_lt _ _ _ _ _ (by omega)]
theorem keepCut_mem {mask : Nat} {last torn : Int} {v : Wr} : ∀ {l : List Wr} {k : Nat}, v ∈ keepCut mask last torn k l → ∃ u ∈ l, v = u ∨ v = cutW torn u
  | [], _, h => by simp [keepCut] at h
  | u :: r, k, h => by
    rw [keepCut] at h
    split at h
    · rcases List.mem_cons.1 h with h | h
      · refine ⟨u, by simp, ?_⟩
        split at h
        · exact .inr h
        · exact .inl h
      · obtain ⟨x, hx, e⟩ := keepCut_mem h
        exact ⟨x, List.mem_cons_of_mem _ hx, e⟩
    · obtain ⟨x, hx, e⟩ := keepCut_mem h
      exact ⟨x, List.mem_cons_of_mem _ hx, e⟩
theorem lastPut_lt (mask : Nat) : ∀ (l : List Wr) (k : Nat), lastPut mask k l < ((k + l.length : Nat) : Int)
  | [], k => by simp [lastPut]; omega
  | u :: r, k => by
    have ih := lastPut_lt mask r (k + 1)
    rw [lastPut, List.length_cons]
    split
    · omega
    · split <;> omega
/-- The place of the last put of a list. -/
def lastIx : List Wr → Int
  | [] => -1
  | u :: r => if r.any isPut = true then lastIx r + 1 else if isPut u = true then 0 else -1
theorem lastIx_none : ∀ (l : List Wr), l.any isPut = false → lastIx l = -1
  | [], _ => rfl
  | u :: r, h => by
    rw [List.any_cons, Bool.or_eq_false_iff] at h
    rw [lastIx, if_neg (by rw [h.2]; simp), if_neg (by rw [h.1]; simp)]
theorem lastIx_some : ∀ (l : List Wr), l.any isPut = true → 0 ≤ lastIx l ∧ lastIx l < (l.length : Int)
  | [], h => by simp at h
  | u :: r, h => by
    rw [lastIx, List.length_cons]
    by_cases hr : r.any isPut = true
    · have := lastIx_some r hr
      rw [if_pos hr]
      omega
    · rw [if_neg hr, if_pos (by rw [List.any_cons] at h; simpa [hr] using h)]
      omega
theorem lastIx_snoc (u : Wr) : ∀ (l : List Wr), lastIx (l ++ [u]) = if isPut u = true then (l.length : Int) else lastIx l
  | [] => by simp [lastIx]
  | a :: r => by
    have ih := lastIx_snoc u r
    rw [List.cons_append, lastIx, ih, List.any_append, List.length_cons, lastIx]
    by_cases hu : isPut u = true
    · simp [hu]
    · simp [hu]
theorem cutLast_eq (torn : Int) : ∀ (l : List Wr), cutLast torn l = if h : 0 ≤ lastIx l ∧ (lastIx l).toNat < l.length then l.set (lastIx l).toNat (cutW torn l[(lastIx l).toNat]) else l
  | [] => by simp [cutLast]
  | u :: r => by
    have ih := cutLast_eq torn r
    by_cases hr : r.any isPut = true
    · have hs := lastIx_some r hr
      have e : lastIx (u :: r) = lastIx r + 1 := by rw [lastIx, if_pos hr]
      have e2 : (lastIx r + 1).toNat = (lastIx r).toNat + 1 := by omega
      rw [cutLast, if_pos hr, ih, dif_pos (by omega), dif_pos (by rw [e, e2, List.length_cons]; omega)]
      simp only [e, e2, List.set_cons_succ, List.getElem_cons_succ]
    · by_cases hp : isPut u = true
      · have e : lastIx (u :: r) = 0 := by rw [lastIx, if_neg hr, if_pos hp]
        rw [cutLast, if_neg hr, if_pos hp, dif_pos (by rw [e]; simp)]
        simp [e]
      · have e : lastIx (u :: r) = -1 := by rw [lastIx, if_neg hr, if_neg hp]
        rw [cutLast, if_neg hr, if_neg hp, dif_neg (by rw [e]; simp)]
end Go.Proofs.YthdmnajcphaekaaDoor
