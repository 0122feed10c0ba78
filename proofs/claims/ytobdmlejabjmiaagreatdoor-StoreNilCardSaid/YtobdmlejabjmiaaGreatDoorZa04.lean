/- Put together of: PlanS, RowS. -/
import Derived.Below
import Derived.OrdersHeld
import Derived.Deep.RegionHeld3
import Derived.Maps.AppendAt
import Derived.Test.YtobdmlejabjmiaaGreatDoorZa03
import Derived.Laws.OwnMore
/- PlanS: put together by merge.py of: PlanE, PlanT. -/
/- A region that draws its order, with operations in it that write or make memory: walked by a plan. What reads is taken as soon as it may come up, under a condition of its own on the world; the condition must hold behind every effect that does not wait for it, and is struck by the first that does. One walk serves every order. -/
namespace Go.Proofs.YtobdmlejabjmiaaGreatDoor
open Go.RowKit

abbrev Obl := List (Nat × (World → Prop))
def depB (md : Region.Mode) (ops : Array Oper) (j i : Nat) : Bool :=
  match ops[j]? with
  | some o => o.after.any fun e => Region.binds md e && e.on == i
  | none => false

section
variable {P : Program} {ops : Array Oper} {Q : Exit → Act → World → Prop} {md : Region.Mode}

def wpAnyO (P : Program) (md : Region.Mode) (ops : Array Oper) (Q : Exit → Act → World → Prop) : Nat → Obl → Array Bool → Act → World → Prop
  | 0, _, listed, a, w => Region.ready md ops listed = [] ∧ Q .normal a w
  | fuel + 1, obl, listed, a, w =>
    (Region.ready md ops listed = [] → Q .normal a w) ∧
    ∀ j ∈ Region.ready md ops listed, wpOp P ops Q j (fun a' w' => (∀ p ∈ obl, depB md ops j p.1 = false → p.2 w') ∧ wpAnyO P md ops Q fuel (obl.filter fun p => !depB md ops j p.1) (listed.setIfInBounds j true) a' w') a w

theorem wpAny_of_obl : ∀ (fuel : Nat) (obl : Obl) (listed : Array Bool) (a : Act) (w : World), wpAnyO P md ops Q fuel obl listed a w → wpAny P md ops Q fuel listed a w
  | 0, _, _, _, _, h => h
  | fuel + 1, _, _, _, _, h => ⟨h.1, fun i hi => wpOp_mono (fun a' w' h' => wpAny_of_obl fuel _ _ a' w' h'.2) (h.2 i hi)⟩

theorem obl_mono : ∀ (fuel : Nat) (obl obl' : Obl) (listed : Array Bool) (a : Act) (w : World), (∀ p ∈ obl', p ∈ obl) → wpAnyO P md ops Q fuel obl listed a w → wpAnyO P md ops Q fuel obl' listed a w
  | 0, _, _, _, _, _, _, h => h
  | fuel + 1, obl, obl', _, _, _, hs, h => ⟨h.1, fun j hj => wpOp_mono (fun a' w' h' => ⟨fun p hp => h'.1 p (hs p hp), obl_mono fuel _ _ _ a' w' (fun p hp => by
      rw [List.mem_filter] at hp ⊢
      exact ⟨hs p hp.1, hp.2⟩) h'.2⟩) (h.2 j hj)⟩

theorem wpAnyO_first {i : Nat} {oi : Oper} {v : Value} {S : World → Prop} (hi : ops[i]? = some oi) (hsel : ∀ (j : Nat) (o : Oper) cs b, ops[j]? = some o → o.op ≠ .select cs b)
    (hQ : ∀ c a w, Q (.panic c) (a.put oi.dst v) w → Q (.panic c) a w) :
    ∀ (fuel : Nat) (obl : Obl) (listed : Array Bool) (a : Act) (w : World),
      (∀ j oj, ops[j]? = some oj → j ≠ i → listed.getD j true = false → (∀ e ∈ oj.after, Region.binds md e = true → e.on ≠ i) → oi.apart ops oj = true) →
      i ∈ Region.ready md ops listed → YieldsIf P ops S oi v a → S w → (∀ p ∈ obl, p.2 w) →
      wpAnyO P md ops Q fuel ((i, S) :: obl) (listed.setIfInBounds i true) (a.put oi.dst v) w → wpAnyO P md ops Q (fuel + 1) obl listed a w := by
  intro fuel
  induction fuel with
  | zero =>
    intro obl listed a w _ hr hy hS hO H
    refine ⟨fun h => (by rw [h] at hr; cases hr), fun j hj => ?_⟩
    by_cases hji : j = i
    · subst hji; exact hy.wpOp hi hS ⟨fun p hp _ => hO p hp, H⟩
    · have := ready_mono hj hji
      rw [H.1] at this
      cases this
  | succ fuel ih =>
    intro obl listed a w hfree hr hy hS hO H
    refine ⟨fun h => (by rw [h] at hr; cases hr), fun j hj => ?_⟩
    by_cases hji : j = i
    · subst hji
      exact hy.wpOp hi hS ⟨fun p hp _ => hO p hp, obl_mono _ _ _ _ _ _ (fun p hp => List.mem_cons_of_mem _ (List.mem_filter.1 hp).1) H⟩
    · have h1 := H.2 j (ready_mono hj hji)
      obtain ⟨hjun, oj, hoj, hall⟩ := mem_ready.1 hj
      have hnot : ∀ e ∈ oj.after, Region.binds md e = true → e.on ≠ i := fun e he hb heq => by
        have h1 := hall e he hb
        have h0 := (mem_ready.1 hr).1
        rw [heq] at h1
        rcases Nat.lt_or_ge i listed.size with h' | h'
        · simp [h'] at h0 h1; rw [h0] at h1; cases h1
        · simp [Array.getElem?_eq_none h'] at h1
      have hdep : depB md ops j i = false := by
        unfold depB
        rw [hoj]
        cases hc : (oj.after.any fun e => Region.binds md e && e.on == i) with
        | false => exact hc
        | true =>
          obtain ⟨e, he, hb⟩ := Array.any_eq_true'.1 hc
          simp only [Bool.and_eq_true, beq_iff_eq] at hb
          exact absurd hb.2 (hnot e he hb.1)
      have h2 := wpOp_putIf hoj (hfree j oj hoj hji hjun hnot) (fun cs b => hsel i oi cs b hi) (fun cs b => hsel j oj cs b hoj) hQ hy h1
      have hfree' : ∀ k ok, ops[k]? = some ok → k ≠ i → (listed.setIfInBounds j true).getD k true = false →
          (∀ e ∈ ok.after, Region.binds md e = true → e.on ≠ i) → oi.apart ops ok = true := fun k ok hk hki hun hno => by
        refine hfree k ok hk hki ?_ hno
        by_cases hjk : j = k
        · subst hjk; exact hjun
        · rw [getD_set_ne true hjk] at hun; exact hun
      refine wpOp_mono (fun a' w' h3 => ⟨fun p hp hd => h3.2.1 p (List.mem_cons_of_mem _ hp) hd, ih _ (listed.setIfInBounds j true) a' w' hfree' (ready_mono hr (Ne.symm hji)) h3.1 (h3.2.1 (i, S) List.mem_cons_self hdep) (fun p hp => ?_) ?_⟩) h2
      · rw [List.mem_filter] at hp
        exact h3.2.1 p (List.mem_cons_of_mem _ hp.1) (by simpa using hp.2)
      · rw [Array.setIfInBounds_comm _ _ hji]
        have := h3.2.2
        rwa [List.filter_cons_of_pos (by simp [hdep])] at this

def planC (md : Region.Mode) (ops : Array Oper) : List (Nat × Option (List Nat)) → Array Bool → Bool
  | [], listed => (Region.ready md ops listed).isEmpty
  | (i, none) :: r, listed => Region.free md ops listed i && (Region.ready md ops listed).contains i && planC md ops r (listed.setIfInBounds i true)
  | (i, some d) :: r, listed => (Region.ready md ops listed == [i]) && d.all (fun k => depB md ops i k) && planC md ops r (listed.setIfInBounds i true)

/-- What is owed behind an effect that strikes 'd'. -/
def owed (d : List Nat) : Obl → World → Prop
  | [], _ => True
  | p :: obl, w => (if d.contains p.1 then True else p.2 w) ∧ owed d obl w
def left (d : List Nat) : Obl → Obl
  | [] => []
  | p :: obl => if d.contains p.1 then left d obl else p :: left d obl

theorem owed_spec {d : List Nat} {w : World} : ∀ {obl : Obl}, owed d obl w → ∀ p ∈ obl, d.contains p.1 = false → p.2 w
  | [], _, p, hp, _ => by cases hp
  | q :: obl, h, p, hp, hd => by
    rcases List.mem_cons.1 hp with rfl | hp
    · have := h.1
      rwa [if_neg (by rw [hd]; simp)] at this
    · exact owed_spec h.2 p hp hd
theorem mem_left {d : List Nat} : ∀ {obl : Obl} {p}, p ∈ left d obl ↔ p ∈ obl ∧ d.contains p.1 = false
  | [], p => by simp [left]
  | q :: obl, p => by
    unfold left
    split
    · rename_i hq
      rw [mem_left, List.mem_cons]
      constructor
      · rintro ⟨h1, h2⟩; exact ⟨.inr h1, h2⟩
      · rintro ⟨h1 | h1, h2⟩
        · subst h1; rw [hq] at h2; cases h2
        · exact ⟨h1, h2⟩
    · rename_i hq
      rw [List.mem_cons, mem_left, List.mem_cons]
      constructor
      · rintro (h | h)
        · subst h; exact ⟨.inl rfl, by simpa using hq⟩
        · exact ⟨.inr h.1, h.2⟩
      · rintro ⟨h1 | h1, h2⟩
        · exact .inl h1
        · exact .inr ⟨h1, h2⟩

def wpPlanE (P : Program) (ops : Array Oper) (Q : Exit → Act → World → Prop) : Obl → List (Nat × Option (List Nat)) → Act → World → Prop
  | _, [], a, w => Q .normal a w
  | obl, (i, none) :: r, a, w => ∃ o v S, ops[i]? = some o ∧ YieldsIf P ops S o v a ∧ S w ∧ wpPlanE P ops Q ((i, S) :: obl) r (a.put o.dst v) w
  | obl, (i, some d) :: r, a, w => ∃ o, ops[i]? = some o ∧ wpOp P ops Q i (fun a' w' => owed d obl w' ∧ wpPlanE P ops Q (left d obl) r a' w') a w

theorem planE_sound (hs : Region.noSelect ops = true) (hQ : ∀ c a w, ¬ Q (.panic c) a w) : ∀ (plan : List (Nat × Option (List Nat))) (fuel : Nat) (obl : Obl) (listed : Array Bool) (a : Act) (w : World),
    plan.length ≤ fuel → planC md ops plan listed = true → (∀ p ∈ obl, p.2 w) → wpPlanE P ops Q obl plan a w → wpAnyO P md ops Q fuel obl listed a w
  | [], fuel, obl, listed, a, w, _, hp, _, h => by
    have hr : Region.ready md ops listed = [] := by simpa [planC] using hp
    cases fuel with
    | zero => exact ⟨hr, h⟩
    | succ _ => exact ⟨fun _ => h, by rw [hr]; simp⟩
  | (i, none) :: r, 0, _, _, _, _, hf, _, _, _ => by simp at hf
  | (i, some d) :: r, 0, _, _, _, _, hf, _, _, _ => by simp at hf
  | (i, none) :: r, fuel + 1, obl, listed, a, w, hf, hp, hO, h => by
    obtain ⟨o, v, S, ho, hy, hS, hr⟩ := h
    simp only [planC, Bool.and_eq_true] at hp
    refine wpAnyO_first ho (Region.noSelect_spec hs) (fun c a w hh => absurd hh (hQ _ _ _)) fuel obl listed a w (Region.free_spec ho hp.1.1) (by simpa using hp.1.2) hy hS hO
      (planE_sound hs hQ r fuel _ _ _ w (by simpa using hf) hp.2 ?_ hr)
    intro p hp'
    rcases List.mem_cons.1 hp' with rfl | hp'
    · exact hS
    · exact hO p hp'
  | (i, some d) :: r, fuel + 1, obl, listed, a, w, hf, hp, hO, h => by
    obtain ⟨o, ho, hw⟩ := h
    simp only [planC, Bool.and_eq_true, beq_iff_eq] at hp
    have hd : ∀ k, d.contains k = true → depB md ops i k = true := fun k hk => by
      have := List.all_eq_true.1 hp.1.2 k (by simpa using hk)
      exact this
    have hnd : ∀ k, depB md ops i k = false → d.contains k = false := fun k hk => by
      cases hc : d.contains k with
      | false => rfl
      | true => rw [hd k hc] at hk; cases hk
    refine ⟨fun h0 => (by rw [h0] at hp; simp at hp), fun j hj => ?_⟩
    rw [hp.1.1, List.mem_singleton] at hj
    subst hj
    refine wpOp_mono (fun a' w' ⟨he, hr⟩ => ⟨fun p hp' hdd => owed_spec he p hp' (hnd _ hdd), ?_⟩) hw
    refine obl_mono fuel (left d obl) _ _ a' w' (fun p hp' => ?_) (planE_sound hs hQ r fuel _ _ a' w' (by simpa using hf) hp.2 (fun p hp' => ?_) hr)
    · rw [List.mem_filter] at hp'
      exact mem_left.2 ⟨hp'.1, hnd _ (by simpa using hp'.2)⟩
    · obtain ⟨h1, h2⟩ := mem_left.1 hp'
      exact owed_spec he p h1 h2

/-- The beginning. -/
theorem wp_region_planE {id : Nat} {a : Act} {w : World} (hm : P.follows .mixedOrders = true) (plan : List (Nat × Option (List Nat))) (hs : Region.noSelect ops = true)
    (hp : planC .any ops plan (Array.replicate ops.size false) = true) (hl : plan.length ≤ ops.size) (h : wpPlanE P ops (NoPanic Q) [] plan a w.drew) : (Code.region id ops true).wp P Q a w :=
  wp_region_noPanic (wp_region_any hm (wpAny_of_obl _ _ _ _ _ (planE_sound hs (fun _ _ _ hh => hh) plan _ _ _ a _ hl hp (by simp) h)))

/-- The beginning, the world behind the draw a letter. -/
theorem wp_region_planE_gen {id : Nat} {a : Act} {w : World} (hm : P.follows .mixedOrders = true) (plan : List (Nat × Option (List Nat))) (hs : Region.noSelect ops = true)
    (hp : planC .any ops plan (Array.replicate ops.size false) = true) (hl : plan.length ≤ ops.size) (h : ∀ wq, wq = w.drew → wpPlanE P ops (NoPanic Q) [] plan a wq) : (Code.region id ops true).wp P Q a w :=
  wp_region_planE hm plan hs hp hl (h _ rfl)

/-- An operation that yields one value in whatever world. -/
theorem planE_pure {obl : Obl} {i : Nat} {r : List (Nat × Option (List Nat))} {a : Act} {w : World} {o : Oper} {v : Value} (ho : ops[i]? = some o) (hw : Region.wanted o (yielded ops a.tmps) = true)
    (hy : ∀ w', (execOp a.eval o).run P w' = .ok (.value v) w') (h : wpPlanE P ops Q ((i, fun _ => True) :: obl) r (a.put o.dst v) w) : wpPlanE P ops Q obl ((i, none) :: r) a w :=
  ⟨o, v, fun _ => True, ho, .inl ⟨hw, fun w' _ => hy w'⟩, trivial, h⟩
/-- An operation that yields one value in every world that meets S. -/
theorem planE_read {obl : Obl} {i : Nat} {r : List (Nat × Option (List Nat))} {a : Act} {w : World} {o : Oper} {v : Value} (S : World → Prop) (ho : ops[i]? = some o) (hw : Region.wanted o (yielded ops a.tmps) = true)
    (hy : ∀ w', S w' → (execOp a.eval o).run P w' = .ok (.value v) w') (hS : S w) (h : wpPlanE P ops Q ((i, S) :: obl) r (a.put o.dst v) w) : wpPlanE P ops Q obl ((i, none) :: r) a w :=
  ⟨o, v, S, ho, .inl ⟨hw, hy⟩, hS, h⟩
/-- A load, of cells that are known. -/
theorem planE_cells {obl : Obl} {i : Nat} {r : List (Nat × Option (List Nat))} {a : Act} {w : World} {o : Oper} {v : Value} (l : List (Addr × Value)) (hc : ∀ p ∈ l, w.cell? p.1 = some p.2) (ho : ops[i]? = some o) (hw : Region.wanted o (yielded ops a.tmps) = true)
    (hy : ∀ w', (∀ p ∈ l, w'.cell? p.1 = some p.2) → (execOp a.eval o).run P w' = .ok (.value v) w') (h : wpPlanE P ops Q ((i, fun w' => ∀ p ∈ l, w'.cell? p.1 = some p.2) :: obl) r (a.put o.dst v) w) : wpPlanE P ops Q obl ((i, none) :: r) a w :=
  ⟨o, v, _, ho, .inl ⟨hw, hy⟩, hc, h⟩
theorem planE_skip {obl : Obl} {i : Nat} {r : List (Nat × Option (List Nat))} {a : Act} {w : World} {o : Oper} (ho : ops[i]? = some o) (hw : Region.wanted o (yielded ops a.tmps) = false)
    (h : wpPlanE P ops Q ((i, fun _ => True) :: obl) r (a.put o.dst undef) w) : wpPlanE P ops Q obl ((i, none) :: r) a w :=
  ⟨o, undef, fun _ => True, ho, .inr ⟨hw, rfl⟩, trivial, h⟩
theorem planE_eff {obl : Obl} {i : Nat} {d : List Nat} {r : List (Nat × Option (List Nat))} {a : Act} {w : World} {o : Oper} (ho : ops[i]? = some o) (hw : Region.wanted o (yielded ops a.tmps) = true)
    (h : ∀ K : Act → World → Prop, (∀ a' w', owed d obl w' → wpPlanE P ops Q (left d obl) r a' w' → K a' w') → o.wp P a w K Q) : wpPlanE P ops Q obl ((i, some d) :: r) a w := by
  refine ⟨o, ho, ?_⟩
  unfold wpOp
  rw [ho]
  simp only [hw, if_true]
  exact .inl (h _ fun a' w' h1 h2 => ⟨h1, h2⟩)
theorem op_append (w : World) {o : Oper} {a : Act} {K : Act → World → Prop} (s x : Operand) (t : TypeId)
    (ho : o.op = .call { callee := .builtin .append, args := #[s, x], argTypes := #[t, t] })
    (base : Nat) (e : TypeId) (i : TypeInfo) (z : Value) (size bytes : Nat) (ht : P.underlying t = some (.slice e)) (hi : P.info? e = some i) (hz : i.zero = some z)
    (hsize : i.size = size) (hby : i.bytes = bytes) (hzs : z.cells.size = size) (hsz : 0 < size)
    (v : Value) (n : Nat) (xs : List Value) (hs : a.eval s = v) (hown : w.ownsRow base e size v n xs)
    (ad : Addr) (m c : Nat) (news : List Value) (hx : a.eval x = .slice (some ad) m c) (hl : news.length = m * size) (hnews : ∀ j u, news[j]? = some u → w.cell? (ad.add j) = some u) (h1 : ∀ u ∈ news, u.oneCell' = true)
    (h63 : n + m ≤ maxLen) (hbytes : (n + m) * bytes ≤ 140737488355328) (hbase : base ≤ w.heap.size)
    (h : ∀ v' w', w'.ownsRow base e size v' (n + m) (xs ++ news) → w.grownBy w' v.ownBlock → (v'.ownBlock = v.ownBlock ∨ v'.ownBlock = some w.heap.size) → K (a.put o.dst v') w') :
    o.wp P a w K Q := by
  obtain ⟨v', w', hr, h2, h3, _, h5⟩ := run_append_own_at (P := P) w base t o.type e i z size bytes ht hi hz hsize hby hzs hsz v n xs hown ad m c news hl hnews h1 h63 hbytes hbase
  unfold Oper.wp execOp
  simp only [ho, resolve, invoke, builtin, Sem.run_bind, Sem.run_pure, Result.andThen_ok, List.map_toArray, List.map_cons, List.map_nil, hs, hx, hr]
  exact h v' w' h2 h3 h5
theorem planE_end {obl : Obl} {a : Act} {w : World} (h : Q .normal a w) : wpPlanE P ops (NoPanic Q) obl [] a w := NoPanic.normal h
end
end Go.Proofs.YtobdmlejabjmiaaGreatDoor
/- A region that draws its order in which two operations that make memory are ready at once: what reads is taken first (as in XPlanE), then either of the two, then a plan for each. -/
namespace Go.Proofs.YtobdmlejabjmiaaGreatDoor
open Go.RowKit
section
variable {P : Program} {ops : Array Oper} {Q : Exit → Act → World → Prop} {md : Region.Mode}

def planCB (md : Region.Mode) (ops : Array Oper) (b : Nat × List Nat × List (Nat × Option (List Nat))) (listed : Array Bool) : Bool :=
  b.2.1.all (fun k => depB md ops b.1 k) && planC md ops b.2.2 (listed.setIfInBounds b.1 true)
def planCT (md : Region.Mode) (ops : Array Oper) (x y : Nat × List Nat × List (Nat × Option (List Nat))) : List Nat → Array Bool → Bool
  | [], listed => (Region.ready md ops listed == [x.1, y.1]) && planCB md ops x listed && planCB md ops y listed
  | i :: r, listed => Region.free md ops listed i && (Region.ready md ops listed).contains i && planCT md ops x y r (listed.setIfInBounds i true)

def wpPlanF (ops : Array Oper) (P : Program) (R : Obl → Act → World → Prop) : Obl → List Nat → Act → World → Prop
  | obl, [], a, w => R obl a w
  | obl, i :: r, a, w => ∃ o v S, ops[i]? = some o ∧ YieldsIf P ops S o v a ∧ S w ∧ wpPlanF ops P R ((i, S) :: obl) r (a.put o.dst v) w

theorem planB_sound (hs : Region.noSelect ops = true) (hQ : ∀ c a w, ¬ Q (.panic c) a w) {x : Nat × List Nat × List (Nat × Option (List Nat))} {fuel : Nat} {obl : Obl} {listed : Array Bool} {a : Act} {w : World}
    (hf : x.2.2.length ≤ fuel) (hp : planCB md ops x listed = true) (hO : ∀ p ∈ obl, p.2 w) (h : wpPlanE P ops Q obl ((x.1, some x.2.1) :: x.2.2) a w) :
    wpOp P ops Q x.1 (fun a' w' => (∀ p ∈ obl, depB md ops x.1 p.1 = false → p.2 w') ∧ wpAnyO P md ops Q fuel (obl.filter fun p => !depB md ops x.1 p.1) (listed.setIfInBounds x.1 true) a' w') a w := by
  obtain ⟨i, d, r⟩ := x
  obtain ⟨o, ho, hw⟩ := h
  simp only [planCB, Bool.and_eq_true] at hp
  have hd : ∀ k, d.contains k = true → depB md ops i k = true := fun k hk => by
    have := List.all_eq_true.1 hp.1 k (by simpa using hk)
    exact this
  have hnd : ∀ k, depB md ops i k = false → d.contains k = false := fun k hk => by
    cases hc : d.contains k with
    | false => rfl
    | true => rw [hd k hc] at hk; cases hk
  refine wpOp_mono (fun a' w' ⟨he, hr⟩ => ⟨fun p hp' hdd => owed_spec he p hp' (hnd _ hdd), ?_⟩) hw
  refine obl_mono fuel (left d obl) _ _ a' w' (fun p hp' => ?_) (planE_sound hs hQ r fuel _ _ a' w' hf hp.2 (fun p hp' => ?_) hr)
  · rw [List.mem_filter] at hp'
    exact mem_left.2 ⟨hp'.1, hnd _ (by simpa using hp'.2)⟩
  · obtain ⟨h1, h2⟩ := mem_left.1 hp'
    exact owed_spec he p h1 h2

theorem planF_sound (hs : Region.noSelect ops = true) (hQ : ∀ c a w, ¬ Q (.panic c) a w) (x y : Nat × List Nat × List (Nat × Option (List Nat))) : ∀ (pre : List Nat) (fuel : Nat) (obl : Obl) (listed : Array Bool) (a : Act) (w : World),
    pre.length + x.2.2.length + 1 ≤ fuel → pre.length + y.2.2.length + 1 ≤ fuel → planCT md ops x y pre listed = true → (∀ p ∈ obl, p.2 w) →
    wpPlanF ops P (fun obl a w => wpPlanE P ops Q obl ((x.1, some x.2.1) :: x.2.2) a w ∧ wpPlanE P ops Q obl ((y.1, some y.2.1) :: y.2.2) a w) obl pre a w → wpAnyO P md ops Q fuel obl listed a w
  | [], 0, _, _, _, _, hf, _, _, _, _ => by omega
  | [], fuel + 1, obl, listed, a, w, hf, hf2, hp, hO, h => by
    simp only [List.length_nil] at hf hf2
    simp only [planCT, Bool.and_eq_true, beq_iff_eq] at hp
    refine ⟨fun h0 => (by rw [h0] at hp; simp at hp), fun j hj => ?_⟩
    rw [hp.1.1] at hj
    simp only [List.mem_cons, List.not_mem_nil, or_false] at hj
    rcases hj with rfl | rfl
    · exact planB_sound hs hQ (by omega) hp.1.2 hO h.1
    · exact planB_sound hs hQ (by omega) hp.2 hO h.2
  | i :: r, 0, _, _, _, _, hf, _, _, _, _ => by omega
  | i :: r, fuel + 1, obl, listed, a, w, hf, hf2, hp, hO, h => by
    obtain ⟨o, v, S, ho, hy, hS, hr⟩ := h
    simp only [planCT, Bool.and_eq_true] at hp
    refine wpAnyO_first ho (Region.noSelect_spec hs) (fun c a w hh => absurd hh (hQ _ _ _)) fuel obl listed a w (Region.free_spec ho hp.1.1) (by simpa using hp.1.2) hy hS hO
      (planF_sound hs hQ x y r fuel _ _ _ w (by simp only [List.length_cons] at hf; omega) (by simp only [List.length_cons] at hf2; omega) hp.2 ?_ hr)
    intro p hp'
    rcases List.mem_cons.1 hp' with rfl | hp'
    · exact hS
    · exact hO p hp'

/-- The beginning. -/
theorem wp_region_planT_gen {id : Nat} {a : Act} {w : World} (hm : P.follows .mixedOrders = true) (pre : List Nat) (x y : Nat × List Nat × List (Nat × Option (List Nat))) (hs : Region.noSelect ops = true)
    (hp : planCT .any ops x y pre (Array.replicate ops.size false) = true) (hl2 : pre.length + x.2.2.length + 1 ≤ ops.size) (hl3 : pre.length + y.2.2.length + 1 ≤ ops.size)
    (h : ∀ wq, wq = w.drew → wpPlanF ops P (fun obl a w => wpPlanE P ops (NoPanic Q) obl ((x.1, some x.2.1) :: x.2.2) a w ∧ wpPlanE P ops (NoPanic Q) obl ((y.1, some y.2.1) :: y.2.2) a w) [] pre a wq) : (Code.region id ops true).wp P Q a w :=
  wp_region_noPanic (wp_region_any hm (wpAny_of_obl _ _ _ _ _ (planF_sound hs (fun _ _ _ hh => hh) x y pre _ _ _ a _ hl2 hl3 hp (by simp) (h _ rfl))))

theorem planF_pure {R : Obl → Act → World → Prop} {obl : Obl} {i : Nat} {r : List Nat} {a : Act} {w : World} {o : Oper} {v : Value} (ho : ops[i]? = some o) (hw : Region.wanted o (yielded ops a.tmps) = true)
    (hy : ∀ w', (execOp a.eval o).run P w' = .ok (.value v) w') (h : wpPlanF ops P R ((i, fun _ => True) :: obl) r (a.put o.dst v) w) : wpPlanF ops P R obl (i :: r) a w :=
  ⟨o, v, fun _ => True, ho, .inl ⟨hw, fun w' _ => hy w'⟩, trivial, h⟩
theorem planF_cells {R : Obl → Act → World → Prop} {obl : Obl} {i : Nat} {r : List Nat} {a : Act} {w : World} {o : Oper} {v : Value} (l : List (Addr × Value)) (hc : ∀ p ∈ l, w.cell? p.1 = some p.2) (ho : ops[i]? = some o) (hw : Region.wanted o (yielded ops a.tmps) = true)
    (hy : ∀ w', (∀ p ∈ l, w'.cell? p.1 = some p.2) → (execOp a.eval o).run P w' = .ok (.value v) w') (h : wpPlanF ops P R ((i, fun w' => ∀ p ∈ l, w'.cell? p.1 = some p.2) :: obl) r (a.put o.dst v) w) : wpPlanF ops P R obl (i :: r) a w :=
  ⟨o, v, _, ho, .inl ⟨hw, hy⟩, hc, h⟩
theorem planF_end {R : Obl → Act → World → Prop} {obl : Obl} {a : Act} {w : World} (h : R obl a w) : wpPlanF ops P R obl [] a w := h
end
end Go.Proofs.YtobdmlejabjmiaaGreatDoor


/- A row of structs of the call's own: told by each one's cells; append of one, and of many. -/
namespace Go.Proofs.YtobdmlejabjmiaaGreatDoor
open Go.RowKit

/-- A row of structs of k cells, of the call's own. -/
def OR (w : World) (base : Nat) (e : TypeId) (k : Nat) (A : Option Addr) (c : Nat) (rows : List (List Value)) : Prop :=
  w.ownsRow base e k (.slice A rows.length c) rows.length rows.flatten ∧ ∀ r ∈ rows, r.length = k

theorem flatten_get {α : Type} {k : Nat} : ∀ {rows : List (List α)}, (∀ r ∈ rows, r.length = k) → ∀ {i : Nat} {r : List α}, rows[i]? = some r → ∀ {j : Nat} {v : α}, r[j]? = some v → rows.flatten[i * k + j]? = some v
  | [], _, i, r, hi, _, _, _ => by simp at hi
  | r0 :: rows, h, 0, r, hi, j, v, hj => by
    simp at hi
    subst hi
    rw [List.flatten_cons, Nat.zero_mul, Nat.zero_add, List.getElem?_append_left (List.getElem?_eq_some_iff.1 hj).1]
    exact hj
  | r0 :: rows, h, i + 1, r, hi, j, v, hj => by
    simp at hi
    have h0 := h r0 List.mem_cons_self
    rw [List.flatten_cons, List.getElem?_append_right (by rw [h0, Nat.succ_mul]; omega), h0, show (i + 1) * k + j - k = i * k + j by rw [Nat.succ_mul]; omega]
    exact flatten_get (fun r hr => h r (List.mem_cons_of_mem _ hr)) hi hj
theorem flatten_len {α : Type} {k : Nat} : ∀ {rows : List (List α)}, (∀ r ∈ rows, r.length = k) → rows.flatten.length = rows.length * k
  | [], _ => by simp
  | r0 :: rows, h => by
    rw [List.flatten_cons, List.length_append, h r0 List.mem_cons_self, flatten_len (fun r hr => h r (List.mem_cons_of_mem _ hr)), List.length_cons, Nat.succ_mul]; omega
theorem flatten_take {α : Type} {k : Nat} : ∀ {rows : List (List α)}, (∀ r ∈ rows, r.length = k) → ∀ i, rows.flatten.take (i * k) = (rows.take i).flatten
  | [], _, i => by simp
  | r0 :: rows, h, 0 => by simp
  | r0 :: rows, h, i + 1 => by
    have h0 := h r0 List.mem_cons_self
    rw [List.flatten_cons, List.take_succ_cons, List.flatten_cons, List.take_append, h0, List.take_of_length_le (by rw [h0, Nat.succ_mul]; omega), show (i + 1) * k - k = i * k by rw [Nat.succ_mul]; omega, flatten_take (fun r hr => h r (List.mem_cons_of_mem _ hr))]
section
variable {w w' : World} {base c k : Nat} {e : TypeId} {A : Option Addr} {rows : List (List Value)}
theorem OR.nil (w : World) (base : Nat) (e : TypeId) (k : Nat) : OR w base e k none 0 [] := ⟨by simpa using World.ownsRow_nil w base e k, by simp⟩
theorem OR.form (h : OR w base e k A c rows) : (A = none ∧ c = 0 ∧ rows = []) ∨ ∃ g, A = some ⟨g, 0, none⟩ ∧ base ≤ g ∧ g < w.heap.size ∧ rows.length ≤ c ∧ c ≤ maxLen := by
  rcases h.1.2 with ⟨hv, hn⟩ | ⟨g, cap, cur, hv, hb, hg, hc, hm, _⟩
  · injection hv with h1 h2 h3
    exact .inl ⟨h1, h3, List.eq_nil_of_length_eq_zero hn⟩
  · injection hv with h1 h2 h3
    subst h3
    exact .inr ⟨g, h1, hb, (Array.getElem?_eq_some_iff.1 hg).1, hc, hm⟩
theorem OR.cap (h : OR w base e k A c rows) : rows.length ≤ c ∧ c ≤ 9223372036854775807 := by
  rcases h.form with ⟨_, rfl, rfl⟩ | ⟨g, _, _, _, h1, h2⟩
  · simp
  · unfold maxLen at h2; omega
theorem OR.blk_lt (h : OR w base e k A c rows) : ∀ b, A.map (·.block) = some b → base ≤ b ∧ b < w.heap.size := by
  intro b hb
  rcases h.form with ⟨rfl, _⟩ | ⟨g, rfl, h1, h2, _⟩
  · simp at hb
  · have : g = b := by simpa using hb
    subst this
    exact ⟨h1, h2⟩
theorem OR.blk (h : OR w base e k A c rows) : ∀ b, A.map (·.block) = some b → ∃ cs, w.heap[b]? = some (.cells cs e (0, 0)) := by
  intro b hb
  rcases h.1.2 with ⟨hv, _⟩ | ⟨g, cap, cur, hv, _, hg, _⟩
  · injection hv with h1 h2 h3
    rw [h1] at hb
    simp at hb
  · injection hv with h1 h2 h3
    rw [h1] at hb
    have : g = b := by simpa using hb
    subst this
    exact ⟨_, hg⟩
theorem OR.of_own {v : Value} {n : Nat} (h : w.ownsRow base e k v n rows.flatten) (hk : ∀ r ∈ rows, r.length = k) (k0 : 0 < k) : ∃ A c, v = .slice A rows.length c ∧ OR w base e k A c rows := by
  have hl : n = rows.length := by
    have := h.1
    rw [flatten_len hk] at this
    exact (Nat.eq_of_mul_eq_mul_right k0 this).symm
  subst hl
  rcases h.2 with ⟨rfl, hn⟩ | ⟨g, cap, cur, rfl, rest⟩
  · have : rows = [] := List.eq_nil_of_length_eq_zero hn
    subst this
    exact ⟨none, 0, rfl, OR.nil _ _ _ _⟩
  · exact ⟨_, _, rfl, h, hk⟩
theorem OR.of_block (h : OR w base e k A c rows) (hb : ∀ b, A.map (·.block) = some b → w'.heap[b]? = w.heap[b]?) : OR w' base e k A c rows := by
  refine ⟨⟨h.1.1, ?_⟩, h.2⟩
  rcases h.1.2 with h2 | ⟨g, cap, cur, hv, hg, hh, r⟩
  · exact .inl h2
  · injection hv with hv1 hv2 hv3
    subst hv1 hv3
    exact .inr ⟨g, _, cur, rfl, hg, by rw [hb g rfl]; exact hh, r⟩
theorem OR.mods {S : Nat → Prop} (h : OR w base e k A c rows) (m : Mods S w w') (hn : ∀ b, A.map (·.block) = some b → ¬ S b) : OR w' base e k A c rows :=
  h.of_block fun b hb => m.block b (h.blk_lt b hb).2 (hn b hb)
theorem OR.below (h : OR w base e k A c rows) (hb : Below w.heap.size w w') : OR w' base e k A c rows := h.of_block fun b hb' => hb.block b (h.blk_lt b hb').2
theorem OR.mono {base' : Nat} (h : OR w base e k A c rows) (hb : base' ≤ base) : OR w base' e k A c rows := by
  refine ⟨⟨h.1.1, ?_⟩, h.2⟩
  rcases h.1.2 with h1 | ⟨g, cap, cur, hv, hbg, rest⟩
  · exact .inl h1
  · exact .inr ⟨g, cap, cur, hv, by omega, rest⟩
theorem OR.made0 (w : World) {base : Nat} (e : TypeId) (k : Nat) (hb : base ≤ w.heap.size) : OR (w.alloc (.cells #[] e)) base e k (some ⟨w.heap.size, 0, none⟩) 0 [] :=
  ⟨by simpa using World.ownsRow_made (e := e) (size := k) w #[] 0 hb (Nat.zero_le _) (by simp), by simp⟩
end

/-- 'append(s, x...)' on structs of the call's own. -/
theorem op_appendS {P : Program} (w : World) {o : Oper} {a : Act} {K : Act → World → Prop} {Q : Exit → Act → World → Prop} (s x : Operand) (t e : TypeId) {i : TypeInfo} {z : Value} {k bytes : Nat}
    (ho : o.op = .call { callee := .builtin .append, args := #[s, x], argTypes := #[t, t] })
    (ht : P.underlying t = some (.slice e)) (hi : P.info? e = some i) (hz0 : i.zero = some z) (hz1 : i.size = k) (hz2 : i.bytes = bytes) (hzs : z.cells.size = k) (k0 : 0 < k)
    (base : Nat) (A X : Option Addr) (c d : Nat) (rows news : List (List Value)) (hs : a.eval s = .slice A rows.length c) (hx : a.eval x = .slice X news.length d)
    (hown : OR w base e k A c rows) (hv : RS w X k news) (hk : ∀ r ∈ news, r.length = k) (h1 : ∀ r ∈ news, ∀ v ∈ r, v.oneCell' = true) (hlen : (rows.length + news.length) * bytes ≤ 140737488355328) (hl2 : rows.length + news.length ≤ 140737488355328) (hbase : base ≤ w.heap.size)
    (h : ∀ (ys : List (List Value)) (A' : Option Addr) (c' : Nat) (w' : World), Hid (ys = rows ++ news) → ys.length ≤ rows.length + news.length → rows.length + news.length ≤ ys.length → OR w' base e k A' c' ys → w.grownBy w' (A.map (·.block)) → (A'.map (·.block) = A.map (·.block) ∨ A'.map (·.block) = some w.heap.size) →
      K (a.put o.dst (.slice A' ys.length c')) w') : o.wp P a w K Q := by
  rcases Nat.eq_zero_or_pos news.length with h0 | h0
  · have hm0 : news = [] := List.eq_nil_of_length_eq_zero h0
    subst hm0
    have hrun : (Builtin.append_ #[t, t] o.type #[.slice A rows.length c, .slice X 0 d]).run P w = .ok (.slice A rows.length c) w := by
      rcases hown.form with ⟨rfl, rfl, rfl⟩ | ⟨g, rfl, _, _, hc, _⟩
      · rcases X with _ | X
        · simp [Builtin.append_, run_underlying ht, sizeOf, typeInfo, hi, Builtin.lenOf, Builtin.firstCells]
        · have hf := run_firstCells_some (P := P) w i.size 0 X 0 d [] (by simp) (by simp)
          simp [Builtin.append_, run_underlying ht, sizeOf, typeInfo, hi, Builtin.lenOf, hf]
      · rcases X with _ | X
        · simp [Builtin.append_, run_underlying ht, sizeOf, typeInfo, hi, Builtin.lenOf, Builtin.firstCells, hc, storeCells]
        · have hf := run_firstCells_some (P := P) w i.size 0 X 0 d [] (by simp) (by simp)
          simp [Builtin.append_, run_underlying ht, sizeOf, typeInfo, hi, Builtin.lenOf, hf, hc, storeCells]
    unfold Oper.wp execOp
    simp only [List.length_nil] at hx
    simp only [ho, resolve, invoke, builtin, Sem.run_bind, Sem.run_pure, Result.andThen_ok, List.map_toArray, List.map_cons, List.map_nil, hs, hx, hrun]
    exact h rows A c w (Lib.hid (by simp)) (by simp) (by simp) hown (World.grownBy.refl w _) (.inl rfl)
  · obtain ⟨b, off, rfl, hb, hc⟩ := hv.at_ h0
    have hadd : ∀ j, (⟨b, off, none⟩ : Addr).add j = ⟨b, off + j, none⟩ := by intro j; unfold Addr.add; split <;> simp_all
    have hget : ∀ j u, news.flatten[j]? = some u → w.cell? ((⟨b, off, none⟩ : Addr).add j) = some u := by
      intro j u hu
      have hjl := (List.getElem?_eq_some_iff.1 hu).1
      rw [flatten_len hk] at hjl
      have hq : j / k < news.length := (Nat.div_lt_iff_lt_mul k0).2 hjl
      have hr : j % k < news[j / k].length := by rw [hk _ (List.getElem_mem hq)]; exact Nat.mod_lt _ k0
      have h2 := flatten_get hk (List.getElem?_eq_getElem hq) (List.getElem?_eq_getElem hr)
      have hj : j / k * k + j % k = j := by rw [Nat.mul_comm]; exact Nat.div_add_mod j k
      rw [hj, hu] at h2
      injection h2 with h2
      have h3 := hc _ _ (List.getElem?_eq_getElem hq) _ _ (List.getElem?_eq_getElem hr)
      rw [hadd, h2, ← h3]
      congr 2
      omega
    refine op_append w s x t ho base e i z k bytes ht hi hz0 hz1 hz2 hzs k0 _ rows.length rows.flatten hs hown.1 ⟨b, off, none⟩ news.length d news.flatten hx (by rw [flatten_len hk]) hget ?_ (by unfold maxLen; omega) hlen hbase ?_
    · intro u hu
      obtain ⟨r, hr, hur⟩ := List.mem_flatten.1 hu
      exact h1 r hr u hur
    · intro v' w' hown' hg hat
      rw [← List.flatten_append] at hown'
      obtain ⟨A', c', hv', hob⟩ := OR.of_own hown' (fun r hr => by
        rcases List.mem_append.1 hr with hr | hr
        · exact hown.2 r hr
        · exact hk r hr) k0
      subst hv'
      rw [own_blk] at hg
      rw [own_blk, own_blk] at hat
      exact h _ _ _ _ (Lib.hid rfl) (by simp) (by simp) hob hg hat

theorem RS.take {w : World} {A : Option Addr} {k : Nat} {L : List (List Value)} (h : RS w A k L) (j : Nat) : RS w A k (L.take j) := by
  refine ⟨fun hn => ?_⟩
  obtain ⟨b, off, e, hb, hc⟩ := h.at_ (by simp at hn; omega)
  refine ⟨b, off, e, hb, fun i cs hi => hc i cs ?_⟩
  rw [List.getElem?_take] at hi
  split at hi
  · exact hi
  · cases hi
theorem RS.drop {w : World} {b off k : Nat} {L : List (List Value)} (h : RS w (some ⟨b, off, none⟩) k L) (j : Nat) : RS w (some ⟨b, off + j * k, none⟩) k (L.drop j) := by
  refine ⟨fun hn => ?_⟩
  obtain ⟨b', off', e, hb, hc⟩ := h.at_ (by simp at hn; omega)
  injection e with e
  injection e with e1 e2
  subst e1 e2
  refine ⟨_, _, rfl, hb, fun i cs hi q v hq => ?_⟩
  rw [List.getElem?_drop] at hi
  have := hc _ cs hi q v hq
  rw [Nat.add_mul] at this
  rw [show off + j * k + i * k + q = off + (j * k + i * k) + q by omega]
  exact this
theorem RS.nil {w : World} {A : Option Addr} {k : Nat} : RS w A k [] := ⟨by simp⟩
/-- One struct, laid out at block g. -/
theorem RS.lit {w : World} {g k : Nat} {T : TypeId} {r : List Value} (h : Blk w g T r.toArray) : RS w (some ⟨g, 0, none⟩) k [r] := by
  refine ⟨fun _ => ⟨g, 0, rfl, h.lt, fun i cs hi j v hj => ?_⟩⟩
  cases i with
  | succ i => simp at hi
  | zero =>
    simp at hi
    subst hi
    have := h.cell j (v := v) (by simpa using hj)
    simpa using this

/-! Blocks of unlike kinds are unlike blocks. -/
theorem OB.blk {w : World} {base c : Nat} {A : Option Addr} {l : List UInt8} (h : OB w base A c l) : ∀ b, A.map (·.block) = some b → ∃ cs, w.heap[b]? = some (.cells cs 5 (0, 0)) := by
  intro b hb
  rcases h.2 with ⟨hv, _⟩ | ⟨g, cap, cur, hv, _, hg, _⟩
  · injection hv with h1 h2 h3
    rw [h1] at hb
    simp at hb
  · injection hv with h1 h2 h3
    rw [h1] at hb
    have : g = b := by simpa using hb
    subst this
    exact ⟨_, hg⟩
theorem cells_ne {w : World} {b g : Nat} {cs ds : Array Value} {T U : TypeId} {f f' : Nat × Nat} (h : w.heap[b]? = some (.cells cs T f)) (k : w.heap[g]? = some (.cells ds U f')) (hne : T ≠ U) : b ≠ g := by
  rintro rfl
  rw [h] at k
  injection k with k
  injection k with _ k
  exact hne k
theorem OB.ne_row {w : World} {base c base' c' k : Nat} {A B : Option Addr} {l : List UInt8} {e : TypeId} {rows : List (List Value)} (h : OB w base A c l) (r : OR w base' e k B c' rows) (hne : 5 ≠ e) : ∀ b, B.map (·.block) = some b → A.map (·.block) ≠ some b := by
  intro b hb ha
  obtain ⟨cs, h1⟩ := h.blk b ha
  obtain ⟨ds, h2⟩ := r.blk b hb
  exact cells_ne h1 h2 hne rfl
theorem OB.ne_var {w : World} {base c g : Nat} {A : Option Addr} {l : List UInt8} {T : TypeId} {cs : Array Value} (h : OB w base A c l) (k : Blk w g T cs) (hne : 5 ≠ T) : A.map (·.block) ≠ some g := by
  intro ha
  obtain ⟨ds, h1⟩ := h.blk g ha
  exact cells_ne h1 k hne rfl
theorem OR.ne_var {w : World} {base c k g : Nat} {A : Option Addr} {e T : TypeId} {rows : List (List Value)} {cs : Array Value} (h : OR w base e k A c rows) (b : Blk w g T cs) (hne : e ≠ T) : A.map (·.block) ≠ some g := by
  intro ha
  obtain ⟨ds, h1⟩ := h.blk g ha
  exact cells_ne h1 b hne rfl
theorem OB.of_block {w w' : World} {base c : Nat} {A : Option Addr} {l : List UInt8} (h : OB w base A c l) (hb : ∀ b, A.map (·.block) = some b → w'.heap[b]? = w.heap[b]?) : OB w' base A c l := by
  refine ⟨h.1, ?_⟩
  rcases h.2 with h2 | ⟨g, cap, cur, hv, hg, hh, r⟩
  · exact .inl h2
  · injection hv with hv1 hv2 hv3
    subst hv1 hv3
    exact .inr ⟨g, _, cur, rfl, hg, by rw [hb g rfl]; exact hh, r⟩
theorem OB.grown_row {w w' : World} {base c : Nat} {A : Option Addr} {l : List UInt8} {row : Option Nat} (h : OB w base A c l) (hg : w.grownBy w' row) (hk : ∀ k, row = some k → A.map (·.block) ≠ some k) : OB w' base A c l :=
  h.of_block fun b hb => hg.block b (h.blk_lt b hb).2 fun e => hk b e.symm hb
theorem OR.grown_row {w w' : World} {base c k : Nat} {e : TypeId} {A : Option Addr} {rows : List (List Value)} {row : Option Nat} (h : OR w base e k A c rows) (hg : w.grownBy w' row) (hk : ∀ b, row = some b → A.map (·.block) ≠ some b) : OR w' base e k A c rows :=
  h.of_block fun b hb => hg.block b (h.blk_lt b hb).2 fun e => hk b e.symm hb
end Go.Proofs.YtobdmlejabjmiaaGreatDoor

