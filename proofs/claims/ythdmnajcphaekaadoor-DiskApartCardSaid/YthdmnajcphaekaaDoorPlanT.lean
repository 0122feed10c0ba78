/- A region that draws its order in which two operations that make memory are ready at once: what reads is taken first (as in XPlanE), then either of the two, then a plan for each. -/
import Derived.Test.YthdmnajcphaekaaDoorPlanE
namespace Go.Proofs.YthdmnajcphaekaaDoor
open Go.RowKit
section
variable {P : Program} {ops : Array Oper} {Q : Exit → Act → World → Prop} {md : Region.Mode}

def planCB (md : Region.Mode) (ops : Array Oper) (b : Nat × List Nat × List (Nat × Option (List Nat))) (listed : Array Bool) : Bool :=
  b.2.1.all (fun k => depB md ops b.1 k) && planC md ops b.2.2 (listed.setIfInBounds b.1 true)
def planCT (md : Region.Mode) (ops : Array Oper) (x y : Nat × List Nat × List (Nat × Option (List Nat))) : List Nat → Array Bool → Bool
  | [], listed => (Region.ready md ops listed == [x.1, y.1]) && planCB md ops x listed && planCB md ops y listed
  | i :: r, listed => Region.free md ops listed i && (Region.ready md ops listed).contains i && planCT md ops x y r (listed.setIfInBounds i true)

def wpPlanF (ops : Array Oper) (P : Program) (R : Obl → Act → World → Prop) : Obl → List Nat → Act → World → Prop
  | obl, [], a, w => R obl a w
  | obl, i :: r, a, w => ∃ o v S, ops[i]? = some o ∧ YieldsIf P ops S o v a ∧ S w ∧ wpPlanF ops P R ((i, S) :: obl) r (a.put o.dst v) w

theorem planB_sound (hs : Region.noSelect ops = true) (hQ : ∀ c a w, ¬ Q (.panic c) a w) {x : Nat × List Nat × List (Nat × Option (List Nat))} {fuel : Nat} {obl : Obl} {listed : Array Bool} {a : Act} {w : World}
    (hf : x.2.2.length ≤ fuel) (hp : planCB md ops x listed = true) (hO : ∀ p ∈ obl, p.2 w) (h : wpPlanE P ops Q obl ((x.1, some x.2.1) :: x.2.2) a w) :
    wpOp P ops Q x.1 (fun a' w' => (∀ p ∈ obl, depB md ops x.1 p.1 = false → p.2 w') ∧ wpAnyO P md ops Q fuel (obl.filter fun p => !depB md ops x.1 p.1) (listed.setIfInBounds x.1 true) a' w') a w := by
  obtain ⟨i, d, r⟩ := x
  obtain ⟨o, ho, hw⟩ := h
  simp only [planCB, Bool.and_eq_true] at hp
  have hd : ∀ k, d.contains k = true → depB md ops i k = true := fun k hk => by
    have := List.all_eq_true.1 hp.1 k (by simpa using hk)
    exact this
  have hnd : ∀ k, depB md ops i k = false → d.contains k = false := fun k hk => by
    cases hc : d.contains k with
    | false => rfl
    | true => rw [hd k hc] at hk; cases hk
  refine wpOp_mono (fun a' w' ⟨he, hr⟩ => ⟨fun p hp' hdd => owed_spec he p hp' (hnd _ hdd), ?_⟩) hw
  refine obl_mono fuel (left d obl) _ _ a' w' (fun p hp' => ?_) (planE_sound hs hQ r fuel _ _ a' w' hf hp.2 (fun p hp' => ?_) hr)
  · rw [List.mem_filter] at hp'
    exact mem_left.2 ⟨hp'.1, hnd _ (by simpa using hp'.2)⟩
  · obtain ⟨h1, h2⟩ := mem_left.1 hp'
    exact owed_spec he p h1 h2

theorem planF_sound (hs : Region.noSelect ops = true) (hQ : ∀ c a w, ¬ Q (.panic c) a w) (x y : Nat × List Nat × List (Nat × Option (List Nat))) : ∀ (pre : List Nat) (fuel : Nat) (obl : Obl) (listed : Array Bool) (a : Act) (w : World),
    pre.length + x.2.2.length + 1 ≤ fuel → pre.length + y.2.2.length + 1 ≤ fuel → planCT md ops x y pre listed = true → (∀ p ∈ obl, p.2 w) →
    wpPlanF ops P (fun obl a w => wpPlanE P ops Q obl ((x.1, some x.2.1) :: x.2.2) a w ∧ wpPlanE P ops Q obl ((y.1, some y.2.1) :: y.2.2) a w) obl pre a w → wpAnyO P md ops Q fuel obl listed a w
  | [], 0, _, _, _, _, hf, _, _, _, _ => by omega
  | [], fuel + 1, obl, listed, a, w, hf, hf2, hp, hO, h => by
    simp only [List.length_nil] at hf hf2
    simp only [planCT, Bool.and_eq_true, beq_iff_eq] at hp
    refine ⟨fun h0 => (by rw [h0] at hp; simp at hp), fun j hj => ?_⟩
    rw [hp.1.1] at hj
    simp only [List.mem_cons, List.not_mem_nil, or_false] at hj
    rcases hj with rfl | rfl
    · exact planB_sound hs hQ (by omega) hp.1.2 hO h.1
    · exact planB_sound hs hQ (by omega) hp.2 hO h.2
  | i :: r, 0, _, _, _, _, hf, _, _, _, _ => by omega
  | i :: r, fuel + 1, obl, listed, a, w, hf, hf2, hp, hO, h => by
    obtain ⟨o, v, S, ho, hy, hS, hr⟩ := h
    simp only [planCT, Bool.and_eq_true] at hp
    refine wpAnyO_first ho (Region.noSelect_spec hs) (fun c a w hh => absurd hh (hQ _ _ _)) fuel obl listed a w (Region.free_spec ho hp.1.1) (by simpa using hp.1.2) hy hS hO
      (planF_sound hs hQ x y r fuel _ _ _ w (by simp only [List.length_cons] at hf; omega) (by simp only [List.length_cons] at hf2; omega) hp.2 ?_ hr)
    intro p hp'
    rcases List.mem_cons.1 hp' with rfl | hp'
    · exact hS
    · exact hO p hp'

/-- The beginning. -/
theorem wp_region_planT_gen {id : Nat} {a : Act} {w : World} (hm : P.follows .mixedOrders = true) (pre : List Nat) (x y : Nat × List Nat × List (Nat × Option (List Nat))) (hs : Region.noSelect ops = true)
    (hp : planCT .any ops x y pre (Array.replicate ops.size false) = true) (hl2 : pre.length + x.2.2.length + 1 ≤ ops.size) (hl3 : pre.length + y.2.2.length + 1 ≤ ops.size)
    (h : ∀ wq, wq = w.drew → wpPlanF ops P (fun obl a w => wpPlanE P ops (NoPanic Q) obl ((x.1, some x.2.1) :: x.2.2) a w ∧ wpPlanE P ops (NoPanic Q) obl ((y.1, some y.2.1) :: y.2.2) a w) [] pre a wq) : (Code.region id ops true).wp P Q a w :=
  wp_region_noPanic (wp_region_any hm (wpAny_of_obl _ _ _ _ _ (planF_sound hs (fun _ _ _ hh => hh) x y pre _ _ _ a _ hl2 hl3 hp (by simp) (h _ rfl))))

theorem planF_pure {R : Obl → Act → World → Prop} {obl : Obl} {i : Nat} {r : List Nat} {a : Act} {w : World} {o : Oper} {v : Value} (ho : ops[i]? = some o) (hw : Region.wanted o (yielded ops a.tmps) = true)
    (hy : ∀ w', (execOp a.eval o).run P w' = .ok (.value v) w') (h : wpPlanF ops P R ((i, fun _ => True) :: obl) r (a.put o.dst v) w) : wpPlanF ops P R obl (i :: r) a w :=
  ⟨o, v, fun _ => True, ho, .inl ⟨hw, fun w' _ => hy w'⟩, trivial, h⟩
theorem planF_read {R : Obl → Act → World → Prop} {obl : Obl} {i : Nat} {r : List Nat} {a : Act} {w : World} {o : Oper} {v : Value} (S : World → Prop) (ho : ops[i]? = some o) (hw : Region.wanted o (yielded ops a.tmps) = true)
    (hy : ∀ w', S w' → (execOp a.eval o).run P w' = .ok (.value v) w') (hS : S w) (h : wpPlanF ops P R ((i, S) :: obl) r (a.put o.dst v) w) : wpPlanF ops P R obl (i :: r) a w :=
  ⟨o, v, S, ho, .inl ⟨hw, hy⟩, hS, h⟩
theorem planF_cells {R : Obl → Act → World → Prop} {obl : Obl} {i : Nat} {r : List Nat} {a : Act} {w : World} {o : Oper} {v : Value} (l : List (Addr × Value)) (hc : ∀ p ∈ l, w.cell? p.1 = some p.2) (ho : ops[i]? = some o) (hw : Region.wanted o (yielded ops a.tmps) = true)
    (hy : ∀ w', (∀ p ∈ l, w'.cell? p.1 = some p.2) → (execOp a.eval o).run P w' = .ok (.value v) w') (h : wpPlanF ops P R ((i, fun w' => ∀ p ∈ l, w'.cell? p.1 = some p.2) :: obl) r (a.put o.dst v) w) : wpPlanF ops P R obl (i :: r) a w :=
  ⟨o, v, _, ho, .inl ⟨hw, hy⟩, hc, h⟩
theorem planF_end {R : Obl → Act → World → Prop} {obl : Obl} {a : Act} {w : World} (h : R obl a w) : wpPlanF ops P R obl [] a w := h
end
end Go.Proofs.YthdmnajcphaekaaDoor
