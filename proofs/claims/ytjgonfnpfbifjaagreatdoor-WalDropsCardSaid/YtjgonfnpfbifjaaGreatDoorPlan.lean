/- A region that draws its order, with calls that make memory in it: walked by a plan. Each operation that is no call is taken as soon as it may come up, and must yield one value in every world that has what is there now; the calls come one after the other, each leaves new memory alone. Then one walk serves every order. -/
import Derived.Below
import Derived.OrdersHeld
import Derived.Deep.RegionHeld3
namespace Go.Proofs.YtjgonfnpfbifjaaGreatDoor
open Go.RowKit

/-- w' has what w has, and new blocks. -/
def Ext (w w' : World) : Prop := Below w.heap.size w w'
theorem Ext.refl (w : World) : Ext w w := Below.refl _ _
theorem Ext.trans {a b c : World} (h : Ext a b) (k : Ext b c) : Ext a c := Below.trans h (Below.mono k h.size)

def planB (md : Region.Mode) (ops : Array Oper) : List (Nat × Bool) → Array Bool → Bool
  | [], listed => (Region.ready md ops listed).isEmpty
  | (i, true) :: r, listed => Region.free md ops listed i && (Region.ready md ops listed).contains i && planB md ops r (listed.setIfInBounds i true)
  | (i, false) :: r, listed => (Region.ready md ops listed == [i]) && planB md ops r (listed.setIfInBounds i true)

def wpPlan (P : Program) (ops : Array Oper) (Q : Exit → Act → World → Prop) : List (Nat × Bool) → Act → World → Prop
  | [], a, w => Q .normal a w
  | (i, true) :: r, a, w => ∃ o v, ops[i]? = some o ∧ YieldsIf P ops (Ext w) o v a ∧ wpPlan P ops Q r (a.put o.dst v) w
  | (i, false) :: r, a, w => ∃ o, ops[i]? = some o ∧ wpOp P ops Q i (fun a' w' => Ext w w' ∧ wpPlan P ops Q r a' w') a w

section
variable {P : Program} {ops : Array Oper} {Q : Exit → Act → World → Prop} {md : Region.Mode}

theorem held_mono {S S' : World → Prop} (h : ∀ w, S' w → S w) : ∀ (fuel : Nat) (listed : Array Bool) (a : Act) (w : World), wpAnyH P md ops Q S' fuel listed a w → wpAnyH P md ops Q S fuel listed a w
  | 0, _, _, _, hh => hh
  | fuel + 1, _, _, _, hh => ⟨hh.1, fun i hi => wpOp_mono (fun a' w' h' => ⟨h _ h'.1, held_mono h fuel _ a' w' h'.2⟩) (hh.2 i hi)⟩

theorem plan_sound (hs : Region.noSelect ops = true) (hQ : ∀ c a w, ¬ Q (.panic c) a w) : ∀ (plan : List (Nat × Bool)) (fuel : Nat) (listed : Array Bool) (a : Act) (w : World),
    plan.length ≤ fuel → planB md ops plan listed = true → wpPlan P ops Q plan a w → wpAnyH P md ops Q (Ext w) fuel listed a w
  | [], fuel, listed, a, w, _, hp, h => wpAnyH_done (by simpa [planB] using hp) h fuel
  | (i, true) :: r, 0, _, _, _, hf, _, _ => by simp at hf
  | (i, false) :: r, 0, _, _, _, hf, _, _ => by simp at hf
  | (i, true) :: r, fuel + 1, listed, a, w, hf, hp, h => by
    obtain ⟨o, v, ho, hy, hr⟩ := h
    simp only [planB, Bool.and_eq_true] at hp
    exact wpAnyH_take ho hs hp.1.1 hp.1.2 (fun c a w hh => absurd hh (hQ _ _ _)) hy (Ext.refl w) (plan_sound hs hQ r fuel _ _ w (by simpa using hf) hp.2 hr)
  | (i, false) :: r, fuel + 1, listed, a, w, hf, hp, h => by
    obtain ⟨o, ho, hw⟩ := h
    simp only [planB, Bool.and_eq_true, beq_iff_eq] at hp
    refine wpAnyH_all hp.1 (by simp) fun j hj => ?_
    rw [List.mem_singleton] at hj
    subst hj
    exact wpOp_mono (fun a' w' ⟨he, hr⟩ => ⟨he, held_mono (fun x hx => he.trans hx) fuel _ a' w' (plan_sound hs hQ r fuel _ a' w' (by simpa using hf) hp.2 hr)⟩) hw

/-- The beginning. -/
theorem wp_region_plan {id : Nat} {a : Act} {w : World} (hm : P.follows .mixedOrders = true) (plan : List (Nat × Bool)) (hs : Region.noSelect ops = true)
    (hp : planB .any ops plan (Array.replicate ops.size false) = true) (hl : plan.length ≤ ops.size) (h : wpPlan P ops (NoPanic Q) plan a w.drew) : (Code.region id ops true).wp P Q a w :=
  wp_region_noPanic (wp_region_held (S := Ext w.drew) hm (plan_sound hs (fun _ _ _ hh => hh) plan _ _ a _ hl hp h))

theorem plan_pure {i : Nat} {r : List (Nat × Bool)} {a : Act} {w : World} {o : Oper} {v : Value} (ho : ops[i]? = some o) (hw : Region.wanted o (yielded ops a.tmps) = true)
    (hy : ∀ w', Ext w w' → (execOp a.eval o).run P w' = .ok (.value v) w') (h : wpPlan P ops Q r (a.put o.dst v) w) : wpPlan P ops Q ((i, true) :: r) a w :=
  ⟨o, v, ho, .inl ⟨hw, hy⟩, h⟩
theorem plan_skip {i : Nat} {r : List (Nat × Bool)} {a : Act} {w : World} {o : Oper} (ho : ops[i]? = some o) (hw : Region.wanted o (yielded ops a.tmps) = false)
    (h : wpPlan P ops Q r (a.put o.dst undef) w) : wpPlan P ops Q ((i, true) :: r) a w :=
  ⟨o, undef, ho, .inr ⟨hw, rfl⟩, h⟩
theorem plan_call {i : Nat} {r : List (Nat × Bool)} {a : Act} {w : World} {o : Oper} (ho : ops[i]? = some o) (hw : Region.wanted o (yielded ops a.tmps) = true)
    (h : ∀ K : Act → World → Prop, (∀ a' w', Ext w w' → wpPlan P ops Q r a' w' → K a' w') → o.wp P a w K Q) : wpPlan P ops Q ((i, false) :: r) a w := by
  refine ⟨o, ho, ?_⟩
  unfold wpOp
  rw [ho]
  simp only [hw, if_true]
  exact .inl (h _ fun a' w' h1 h2 => ⟨h1, h2⟩)
theorem plan_call_skip {i : Nat} {r : List (Nat × Bool)} {a : Act} {w : World} {o : Oper} (ho : ops[i]? = some o) (hw : Region.wanted o (yielded ops a.tmps) = false)
    (h : wpPlan P ops Q r (a.put o.dst undef) w) : wpPlan P ops Q ((i, false) :: r) a w := by
  refine ⟨o, ho, ?_⟩
  unfold wpOp
  rw [ho]
  simp only [hw, Bool.false_eq_true, if_false]
  exact ⟨Ext.refl w, h⟩
theorem plan_end {a : Act} {w : World} (h : Q .normal a w) : wpPlan P ops (NoPanic Q) [] a w := NoPanic.normal h
end
end Go.Proofs.YtjgonfnpfbifjaaGreatDoor
