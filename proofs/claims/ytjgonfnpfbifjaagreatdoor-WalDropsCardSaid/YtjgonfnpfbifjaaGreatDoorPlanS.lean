/- PlanS: put together by merge.py of: PlanE, PlanT. -/
import Derived.Below
import Derived.OrdersHeld
import Derived.Deep.RegionHeld3
import Derived.Maps.AppendAt
/- A region that draws its order, with operations in it that write or make memory: walked by a plan. What reads is taken as soon as it may come up, under a condition of its own on the world; the condition must hold behind every effect that does not wait for it, and is struck by the first that does. One walk serves every order. -/
namespace Go.Proofs.YtjgonfnpfbifjaaGreatDoor
open Go.RowKit

abbrev Obl := List (Nat × (World → Prop))
def depB (md : Region.Mode) (ops : Array Oper) (j i : Nat) : Bool :=
  match ops[j]? with
  | some o => o.after.any fun e => Region.binds md e && e.on == i
  | none => false

section
variable {P : Program} {ops : Array Oper} {Q : Exit → Act → World → Prop} {md : Region.Mode}

def wpAnyO (P : Program) (md : Region.Mode) (ops : Array Oper) (Q : Exit → Act → World → Prop) : Nat → Obl → Array Bool → Act → World → Prop
  | 0, _, listed, a, w => Region.ready md ops listed = [] ∧ Q .normal a w
  | fuel + 1, obl, listed, a, w =>
    (Region.ready md ops listed = [] → Q .normal a w) ∧
    ∀ j ∈ Region.ready md ops listed, wpOp P ops Q j (fun a' w' => (∀ p ∈ obl, depB md ops j p.1 = false → p.2 w') ∧ wpAnyO P md ops Q fuel (obl.filter fun p => !depB md ops j p.1) (listed.setIfInBounds j true) a' w') a w

theorem wpAny_of_obl : ∀ (fuel : Nat) (obl : Obl) (listed : Array Bool) (a : Act) (w : World), wpAnyO P md ops Q fuel obl listed a w → wpAny P md ops Q fuel listed a w
  | 0, _, _, _, _, h => h
  | fuel + 1, _, _, _, _, h => ⟨h.1, fun i hi => wpOp_mono (fun a' w' h' => wpAny_of_obl fuel _ _ a' w' h'.2) (h.2 i hi)⟩

theorem obl_mono : ∀ (fuel : Nat) (obl obl' : Obl) (listed : Array Bool) (a : Act) (w : World), (∀ p ∈ obl', p ∈ obl) → wpAnyO P md ops Q fuel obl listed a w → wpAnyO P md ops Q fuel obl' listed a w
  | 0, _, _, _, _, _, _, h => h
  | fuel + 1, obl, obl', _, _, _, hs, h => ⟨h.1, fun j hj => wpOp_mono (fun a' w' h' => ⟨fun p hp => h'.1 p (hs p hp), obl_mono fuel _ _ _ a' w' (fun p hp => by
      rw [List.mem_filter] at hp ⊢
      exact ⟨hs p hp.1, hp.2⟩) h'.2⟩) (h.2 j hj)⟩

theorem wpAnyO_first {i : Nat} {oi : Oper} {v : Value} {S : World → Prop} (hi : ops[i]? = some oi) (hsel : ∀ (j : Nat) (o : Oper) cs b, ops[j]? = some o → o.op ≠ .select cs b)
    (hQ : ∀ c a w, Q (.panic c) (a.put oi.dst v) w → Q (.panic c) a w) :
    ∀ (fuel : Nat) (obl : Obl) (listed : Array Bool) (a : Act) (w : World),
      (∀ j oj, ops[j]? = some oj → j ≠ i → listed.getD j true = false → (∀ e ∈ oj.after, Region.binds md e = true → e.on ≠ i) → oi.apart ops oj = true) →
      i ∈ Region.ready md ops listed → YieldsIf P ops S oi v a → S w → (∀ p ∈ obl, p.2 w) →
      wpAnyO P md ops Q fuel ((i, S) :: obl) (listed.setIfInBounds i true) (a.put oi.dst v) w → wpAnyO P md ops Q (fuel + 1) obl listed a w := by
  intro fuel
  induction fuel with
  | zero =>
    intro obl listed a w _ hr hy hS hO H
    refine ⟨fun h => (by rw [h] at hr; cases hr), fun j hj => ?_⟩
    by_cases hji : j = i
    · subst hji; exact hy.wpOp hi hS ⟨fun p hp _ => hO p hp, H⟩
    · have := ready_mono hj hji
      rw [H.1] at this
      cases this
  | succ fuel ih =>
    intro obl listed a w hfree hr hy hS hO H
    refine ⟨fun h => (by rw [h] at hr; cases hr), fun j hj => ?_⟩
    by_cases hji : j = i
    · subst hji
      exact hy.wpOp hi hS ⟨fun p hp _ => hO p hp, obl_mono _ _ _ _ _ _ (fun p hp => List.mem_cons_of_mem _ (List.mem_filter.1 hp).1) H⟩
    · have h1 := H.2 j (ready_mono hj hji)
      obtain ⟨hjun, oj, hoj, hall⟩ := mem_ready.1 hj
      have hnot : ∀ e ∈ oj.after, Region.binds md e = true → e.on ≠ i := fun e he hb heq => by
        have h1 := hall e he hb
        have h0 := (mem_ready.1 hr).1
        rw [heq] at h1
        rcases Nat.lt_or_ge i listed.size with h' | h'
        · simp [h'] at h0 h1; rw [h0] at h1; cases h1
        · simp [Array.getElem?_eq_none h'] at h1
      have hdep : depB md ops j i = false := by
        unfold depB
        rw [hoj]
        cases hc : (oj.after.any fun e => Region.binds md e && e.on == i) with
        | false => exact hc
        | true =>
          obtain ⟨e, he, hb⟩ := Array.any_eq_true'.1 hc
          simp only [Bool.and_eq_true, beq_iff_eq] at hb
          exact absurd hb.2 (hnot e he hb.1)
      have h2 := wpOp_putIf hoj (hfree j oj hoj hji hjun hnot) (fun cs b => hsel i oi cs b hi) (fun cs b => hsel j oj cs b hoj) hQ hy h1
      have hfree' : ∀ k ok, ops[k]? = some ok → k ≠ i → (listed.setIfInBounds j true).getD k true = false →
          (∀ e ∈ ok.after, Region.binds md e = true → e.on ≠ i) → oi.apart ops ok = true := fun k ok hk hki hun hno => by
        refine hfree k ok hk hki ?_ hno
        by_cases hjk : j = k
        · subst hjk; exact hjun
        · rw [getD_set_ne true hjk] at hun; exact hun
      refine wpOp_mono (fun a' w' h3 => ⟨fun p hp hd => h3.2.1 p (List.mem_cons_of_mem _ hp) hd, ih _ (listed.setIfInBounds j true) a' w' hfree' (ready_mono hr (Ne.symm hji)) h3.1 (h3.2.1 (i, S) List.mem_cons_self hdep) (fun p hp => ?_) ?_⟩) h2
      · rw [List.mem_filter] at hp
        exact h3.2.1 p (List.mem_cons_of_mem _ hp.1) (by simpa using hp.2)
      · rw [Array.setIfInBounds_comm _ _ hji]
        have := h3.2.2
        rwa [List.filter_cons_of_pos (by simp [hdep])] at this

def planC (md : Region.Mode) (ops : Array Oper) : List (Nat × Option (List Nat)) → Array Bool → Bool
  | [], listed => (Region.ready md ops listed).isEmpty
  | (i, none) :: r, listed => Region.free md ops listed i && (Region.ready md ops listed).contains i && planC md ops r (listed.setIfInBounds i true)
  | (i, some d) :: r, listed => (Region.ready md ops listed == [i]) && d.all (fun k => depB md ops i k) && planC md ops r (listed.setIfInBounds i true)

/-- What is owed behind an effect that strikes 'd'. -/
def owed (d : List Nat) : Obl → World → Prop
  | [], _ => True
  | p :: obl, w => (if d.contains p.1 then True else p.2 w) ∧ owed d obl w
def left (d : List Nat) : Obl → Obl
  | [] => []
  | p :: obl => if d.contains p.1 then left d obl else p :: left d obl

theorem owed_spec {d : List Nat} {w : World} : ∀ {obl : Obl}, owed d obl w → ∀ p ∈ obl, d.contains p.1 = false → p.2 w
  | [], _, p, hp, _ => by cases hp
  | q :: obl, h, p, hp, hd => by
    rcases List.mem_cons.1 hp with rfl | hp
    · have := h.1
      rwa [if_neg (by rw [hd]; simp)] at this
    · exact owed_spec h.2 p hp hd
theorem mem_left {d : List Nat} : ∀ {obl : Obl} {p}, p ∈ left d obl ↔ p ∈ obl ∧ d.contains p.1 = false
  | [], p => by simp [left]
  | q :: obl, p => by
    unfold left
    split
    · rename_i hq
      rw [mem_left, List.mem_cons]
      constructor
      · rintro ⟨h1, h2⟩; exact ⟨.inr h1, h2⟩
      · rintro ⟨h1 | h1, h2⟩
        · subst h1; rw [hq] at h2; cases h2
        · exact ⟨h1, h2⟩
    · rename_i hq
      rw [List.mem_cons, mem_left, List.mem_cons]
      constructor
      · rintro (h | h)
        · subst h; exact ⟨.inl rfl, by simpa using hq⟩
        · exact ⟨.inr h.1, h.2⟩
      · rintro ⟨h1 | h1, h2⟩
        · exact .inl h1
        · exact .inr ⟨h1, h2⟩

def wpPlanE (P : Program) (ops : Array Oper) (Q : Exit → Act → World → Prop) : Obl → List (Nat × Option (List Nat)) → Act → World → Prop
  | _, [], a, w => Q .normal a w
  | obl, (i, none) :: r, a, w => ∃ o v S, ops[i]? = some o ∧ YieldsIf P ops S o v a ∧ S w ∧ wpPlanE P ops Q ((i, S) :: obl) r (a.put o.dst v) w
  | obl, (i, some d) :: r, a, w => ∃ o, ops[i]? = some o ∧ wpOp P ops Q i (fun a' w' => owed d obl w' ∧ wpPlanE P ops Q (left d obl) r a' w') a w

theorem planE_sound (hs : Region.noSelect ops = true) (hQ : ∀ c a w, ¬ Q (.panic c) a w) : ∀ (plan : List (Nat × Option (List Nat))) (fuel : Nat) (obl : Obl) (listed : Array Bool) (a : Act) (w : World),
    plan.length ≤ fuel → planC md ops plan listed = true → (∀ p ∈ obl, p.2 w) → wpPlanE P ops Q obl plan a w → wpAnyO P md ops Q fuel obl listed a w
  | [], fuel, obl, listed, a, w, _, hp, _, h => by
    have hr : Region.ready md ops listed = [] := by simpa [planC] using hp
    cases fuel with
    | zero => exact ⟨hr, h⟩
    | succ _ => exact ⟨fun _ => h, by rw [hr]; simp⟩
  | (i, none) :: r, 0, _, _, _, _, hf, _, _, _ => by simp at hf
  | (i, some d) :: r, 0, _, _, _, _, hf, _, _, _ => by simp at hf
  | (i, none) :: r, fuel + 1, obl, listed, a, w, hf, hp, hO, h => by
    obtain ⟨o, v, S, ho, hy, hS, hr⟩ := h
    simp only [planC, Bool.and_eq_true] at hp
    refine wpAnyO_first ho (Region.noSelect_spec hs) (fun c a w hh => absurd hh (hQ _ _ _)) fuel obl listed a w (Region.free_spec ho hp.1.1) (by simpa using hp.1.2) hy hS hO
      (planE_sound hs hQ r fuel _ _ _ w (by simpa using hf) hp.2 ?_ hr)
    intro p hp'
    rcases List.mem_cons.1 hp' with rfl | hp'
    · exact hS
    · exact hO p hp'
  | (i, some d) :: r, fuel + 1, obl, listed, a, w, hf, hp, hO, h => by
    obtain ⟨o, ho, hw⟩ := h
    simp only [planC, Bool.and_eq_true, beq_iff_eq] at hp
    have hd : ∀ k, d.contains k = true → depB md ops i k = true := fun k hk => by
      have := List.all_eq_true.1 hp.1.2 k (by simpa using hk)
      exact this
    have hnd : ∀ k, depB md ops i k = false → d.contains k = false := fun k hk => by
      cases hc : d.contains k with
      | false => rfl
      | true => rw [hd k hc] at hk; cases hk
    refine ⟨fun h0 => (by rw [h0] at hp; simp at hp), fun j hj => ?_⟩
    rw [hp.1.1, List.mem_singleton] at hj
    subst hj
    refine wpOp_mono (fun a' w' ⟨he, hr⟩ => ⟨fun p hp' hdd => owed_spec he p hp' (hnd _ hdd), ?_⟩) hw
    refine obl_mono fuel (left d obl) _ _ a' w' (fun p hp' => ?_) (planE_sound hs hQ r fuel _ _ a' w' (by simpa using hf) hp.2 (fun p hp' => ?_) hr)
    · rw [List.mem_filter] at hp'
      exact mem_left.2 ⟨hp'.1, hnd _ (by simpa using hp'.2)⟩
    · obtain ⟨h1, h2⟩ := mem_left.1 hp'
      exact owed_spec he p h1 h2

/-- The beginning. -/
theorem wp_region_planE {id : Nat} {a : Act} {w : World} (hm : P.follows .mixedOrders = true) (plan : List (Nat × Option (List Nat))) (hs : Region.noSelect ops = true)
    (hp : planC .any ops plan (Array.replicate ops.size false) = true) (hl : plan.length ≤ ops.size) (h : wpPlanE P ops (NoPanic Q) [] plan a w.drew) : (Code.region id ops true).wp P Q a w :=
  wp_region_noPanic (wp_region_any hm (wpAny_of_obl _ _ _ _ _ (planE_sound hs (fun _ _ _ hh => hh) plan _ _ _ a _ hl hp (by simp) h)))

/-- The beginning, the world behind the draw a letter. -/
theorem wp_region_planE_gen {id : Nat} {a : Act} {w : World} (hm : P.follows .mixedOrders = true) (plan : List (Nat × Option (List Nat))) (hs : Region.noSelect ops = true)
    (hp : planC .any ops plan (Array.replicate ops.size false) = true) (hl : plan.length ≤ ops.size) (h : ∀ wq, wq = w.drew → wpPlanE P ops (NoPanic Q) [] plan a wq) : (Code.region id ops true).wp P Q a w :=
  wp_region_planE hm plan hs hp hl (h _ rfl)

/-- An operation that yields one value in whatever world. -/
theorem planE_pure {obl : Obl} {i : Nat} {r : List (Nat × Option (List Nat))} {a : Act} {w : World} {o : Oper} {v : Value} (ho : ops[i]? = some o) (hw : Region.wanted o (yielded ops a.tmps) = true)
    (hy : ∀ w', (execOp a.eval o).run P w' = .ok (.value v) w') (h : wpPlanE P ops Q ((i, fun _ => True) :: obl) r (a.put o.dst v) w) : wpPlanE P ops Q obl ((i, none) :: r) a w :=
  ⟨o, v, fun _ => True, ho, .inl ⟨hw, fun w' _ => hy w'⟩, trivial, h⟩
/-- An operation that yields one value in every world that meets S. -/
theorem planE_read {obl : Obl} {i : Nat} {r : List (Nat × Option (List Nat))} {a : Act} {w : World} {o : Oper} {v : Value} (S : World → Prop) (ho : ops[i]? = some o) (hw : Region.wanted o (yielded ops a.tmps) = true)
    (hy : ∀ w', S w' → (execOp a.eval o).run P w' = .ok (.value v) w') (hS : S w) (h : wpPlanE P ops Q ((i, S) :: obl) r (a.put o.dst v) w) : wpPlanE P ops Q obl ((i, none) :: r) a w :=
  ⟨o, v, S, ho, .inl ⟨hw, hy⟩, hS, h⟩
/-- A load, of cells that are known. -/
theorem planE_cells {obl : Obl} {i : Nat} {r : List (Nat × Option (List Nat))} {a : Act} {w : World} {o : Oper} {v : Value} (l : List (Addr × Value)) (hc : ∀ p ∈ l, w.cell? p.1 = some p.2) (ho : ops[i]? = some o) (hw : Region.wanted o (yielded ops a.tmps) = true)
    (hy : ∀ w', (∀ p ∈ l, w'.cell? p.1 = some p.2) → (execOp a.eval o).run P w' = .ok (.value v) w') (h : wpPlanE P ops Q ((i, fun w' => ∀ p ∈ l, w'.cell? p.1 = some p.2) :: obl) r (a.put o.dst v) w) : wpPlanE P ops Q obl ((i, none) :: r) a w :=
  ⟨o, v, _, ho, .inl ⟨hw, hy⟩, hc, h⟩
theorem planE_skip {obl : Obl} {i : Nat} {r : List (Nat × Option (List Nat))} {a : Act} {w : World} {o : Oper} (ho : ops[i]? = some o) (hw : Region.wanted o (yielded ops a.tmps) = false)
    (h : wpPlanE P ops Q ((i, fun _ => True) :: obl) r (a.put o.dst undef) w) : wpPlanE P ops Q obl ((i, none) :: r) a w :=
  ⟨o, undef, fun _ => True, ho, .inr ⟨hw, rfl⟩, trivial, h⟩
theorem planE_eff {obl : Obl} {i : Nat} {d : List Nat} {r : List (Nat × Option (List Nat))} {a : Act} {w : World} {o : Oper} (ho : ops[i]? = some o) (hw : Region.wanted o (yielded ops a.tmps) = true)
    (h : ∀ K : Act → World → Prop, (∀ a' w', owed d obl w' → wpPlanE P ops Q (left d obl) r a' w' → K a' w') → o.wp P a w K Q) : wpPlanE P ops Q obl ((i, some d) :: r) a w := by
  refine ⟨o, ho, ?_⟩
  unfold wpOp
  rw [ho]
  simp only [hw, if_true]
  exact .inl (h _ fun a' w' h1 h2 => ⟨h1, h2⟩)
theorem op_append (w : World) {o : Oper} {a : Act} {K : Act → World → Prop} (s x : Operand) (t : TypeId)
    (ho : o.op = .call { callee := .builtin .append, args := #[s, x], argTypes := #[t, t] })
    (base : Nat) (e : TypeId) (i : TypeInfo) (z : Value) (size bytes : Nat) (ht : P.underlying t = some (.slice e)) (hi : P.info? e = some i) (hz : i.zero = some z)
    (hsize : i.size = size) (hby : i.bytes = bytes) (hzs : z.cells.size = size) (hsz : 0 < size)
    (v : Value) (n : Nat) (xs : List Value) (hs : a.eval s = v) (hown : w.ownsRow base e size v n xs)
    (ad : Addr) (m c : Nat) (news : List Value) (hx : a.eval x = .slice (some ad) m c) (hl : news.length = m * size) (hnews : ∀ j u, news[j]? = some u → w.cell? (ad.add j) = some u) (h1 : ∀ u ∈ news, u.oneCell' = true)
    (h63 : n + m ≤ maxLen) (hbytes : (n + m) * bytes ≤ 140737488355328) (hbase : base ≤ w.heap.size)
    (h : ∀ v' w', w'.ownsRow base e size v' (n + m) (xs ++ news) → w.grownBy w' v.ownBlock → (v'.ownBlock = v.ownBlock ∨ v'.ownBlock = some w.heap.size) → K (a.put o.dst v') w') :
    o.wp P a w K Q := by
  obtain ⟨v', w', hr, h2, h3, _, h5⟩ := run_append_own_at (P := P) w base t o.type e i z size bytes ht hi hz hsize hby hzs hsz v n xs hown ad m c news hl hnews h1 h63 hbytes hbase
  unfold Oper.wp execOp
  simp only [ho, resolve, invoke, builtin, Sem.run_bind, Sem.run_pure, Result.andThen_ok, List.map_toArray, List.map_cons, List.map_nil, hs, hx, hr]
  exact h v' w' h2 h3 h5
theorem planE_end {obl : Obl} {a : Act} {w : World} (h : Q .normal a w) : wpPlanE P ops (NoPanic Q) obl [] a w := NoPanic.normal h
end
end Go.Proofs.YtjgonfnpfbifjaaGreatDoor
/- A region that draws its order in which two operations that make memory are ready at once: what reads is taken first (as in XPlanE), then either of the two, then a plan for each. -/
namespace Go.Proofs.YtjgonfnpfbifjaaGreatDoor
open Go.RowKit
section
variable {P : Program} {ops : Array Oper} {Q : Exit → Act → World → Prop} {md : Region.Mode}

def planCB (md : Region.Mode) (ops : Array Oper) (b : Nat × List Nat × List (Nat × Option (List Nat))) (listed : Array Bool) : Bool :=
  b.2.1.all (fun k => depB md ops b.1 k) && planC md ops b.2.2 (listed.setIfInBounds b.1 true)
def planCT (md : Region.Mode) (ops : Array Oper) (x y : Nat × List Nat × List (Nat × Option (List Nat))) : List Nat → Array Bool → Bool
  | [], listed => (Region.ready md ops listed == [x.1, y.1]) && planCB md ops x listed && planCB md ops y listed
  | i :: r, listed => Region.free md ops listed i && (Region.ready md ops listed).contains i && planCT md ops x y r (listed.setIfInBounds i true)

def wpPlanF (ops : Array Oper) (P : Program) (R : Obl → Act → World → Prop) : Obl → List Nat → Act → World → Prop
  | obl, [], a, w => R obl a w
  | obl, i :: r, a, w => ∃ o v S, ops[i]? = some o ∧ YieldsIf P ops S o v a ∧ S w ∧ wpPlanF ops P R ((i, S) :: obl) r (a.put o.dst v) w

theorem planB_sound (hs : Region.noSelect ops = true) (hQ : ∀ c a w, ¬ Q (.panic c) a w) {x : Nat × List Nat × List (Nat × Option (List Nat))} {fuel : Nat} {obl : Obl} {listed : Array Bool} {a : Act} {w : World}
    (hf : x.2.2.length ≤ fuel) (hp : planCB md ops x listed = true) (hO : ∀ p ∈ obl, p.2 w) (h : wpPlanE P ops Q obl ((x.1, some x.2.1) :: x.2.2) a w) :
    wpOp P ops Q x.1 (fun a' w' => (∀ p ∈ obl, depB md ops x.1 p.1 = false → p.2 w') ∧ wpAnyO P md ops Q fuel (obl.filter fun p => !depB md ops x.1 p.1) (listed.setIfInBounds x.1 true) a' w') a w := by
  obtain ⟨i, d, r⟩ := x
  obtain ⟨o, ho, hw⟩ := h
  simp only [planCB, Bool.and_eq_true] at hp
  have hd : ∀ k, d.contains k = true → depB md ops i k = true := fun k hk => by
    have := List.all_eq_true.1 hp.1 k (by simpa using hk)
    exact this
  have hnd : ∀ k, depB md ops i k = false → d.contains k = false := fun k hk => by
    cases hc : d.contains k with
    | false => rfl
    | true => rw [hd k hc] at hk; cases hk
  refine wpOp_mono (fun a' w' ⟨he, hr⟩ => ⟨fun p hp' hdd => owed_spec he p hp' (hnd _ hdd), ?_⟩) hw
  refine obl_mono fuel (left d obl) _ _ a' w' (fun p hp' => ?_) (planE_sound hs hQ r fuel _ _ a' w' hf hp.2 (fun p hp' => ?_) hr)
  · rw [List.mem_filter] at hp'
    exact mem_left.2 ⟨hp'.1, hnd _ (by simpa using hp'.2)⟩
  · obtain ⟨h1, h2⟩ := mem_left.1 hp'
    exact owed_spec he p h1 h2

theorem planF_sound (hs : Region.noSelect ops = true) (hQ : ∀ c a w, ¬ Q (.panic c) a w) (x y : Nat × List Nat × List (Nat × Option (List Nat))) : ∀ (pre : List Nat) (fuel : Nat) (obl : Obl) (listed : Array Bool) (a : Act) (w : World),
    pre.length + x.2.2.length + 1 ≤ fuel → pre.length + y.2.2.length + 1 ≤ fuel → planCT md ops x y pre listed = true → (∀ p ∈ obl, p.2 w) →
    wpPlanF ops P (fun obl a w => wpPlanE P ops Q obl ((x.1, some x.2.1) :: x.2.2) a w ∧ wpPlanE P ops Q obl ((y.1, some y.2.1) :: y.2.2) a w) obl pre a w → wpAnyO P md ops Q fuel obl listed a w
  | [], 0, _, _, _, _, hf, _, _, _, _ => by omega
  | [], fuel + 1, obl, listed, a, w, hf, hf2, hp, hO, h => by
    simp only [List.length_nil] at hf hf2
    simp only [planCT, Bool.and_eq_true, beq_iff_eq] at hp
    refine ⟨fun h0 => (by rw [h0] at hp; simp at hp), fun j hj => ?_⟩
    rw [hp.1.1] at hj
    simp only [List.mem_cons, List.not_mem_nil, or_false] at hj
    rcases hj with rfl | rfl
    · exact planB_sound hs hQ (by omega) hp.1.2 hO h.1
    · exact planB_sound hs hQ (by omega) hp.2 hO h.2
  | i :: r, 0, _, _, _, _, hf, _, _, _, _ => by omega
  | i :: r, fuel + 1, obl, listed, a, w, hf, hf2, hp, hO, h => by
    obtain ⟨o, v, S, ho, hy, hS, hr⟩ := h
    simp only [planCT, Bool.and_eq_true] at hp
    refine wpAnyO_first ho (Region.noSelect_spec hs) (fun c a w hh => absurd hh (hQ _ _ _)) fuel obl listed a w (Region.free_spec ho hp.1.1) (by simpa using hp.1.2) hy hS hO
      (planF_sound hs hQ x y r fuel _ _ _ w (by simp only [List.length_cons] at hf; omega) (by simp only [List.length_cons] at hf2; omega) hp.2 ?_ hr)
    intro p hp'
    rcases List.mem_cons.1 hp' with rfl | hp'
    · exact hS
    · exact hO p hp'

/-- The beginning. -/
theorem wp_region_planT_gen {id : Nat} {a : Act} {w : World} (hm : P.follows .mixedOrders = true) (pre : List Nat) (x y : Nat × List Nat × List (Nat × Option (List Nat))) (hs : Region.noSelect ops = true)
    (hp : planCT .any ops x y pre (Array.replicate ops.size false) = true) (hl2 : pre.length + x.2.2.length + 1 ≤ ops.size) (hl3 : pre.length + y.2.2.length + 1 ≤ ops.size)
    (h : ∀ wq, wq = w.drew → wpPlanF ops P (fun obl a w => wpPlanE P ops (NoPanic Q) obl ((x.1, some x.2.1) :: x.2.2) a w ∧ wpPlanE P ops (NoPanic Q) obl ((y.1, some y.2.1) :: y.2.2) a w) [] pre a wq) : (Code.region id ops true).wp P Q a w :=
  wp_region_noPanic (wp_region_any hm (wpAny_of_obl _ _ _ _ _ (planF_sound hs (fun _ _ _ hh => hh) x y pre _ _ _ a _ hl2 hl3 hp (by simp) (h _ rfl))))

theorem planF_pure {R : Obl → Act → World → Prop} {obl : Obl} {i : Nat} {r : List Nat} {a : Act} {w : World} {o : Oper} {v : Value} (ho : ops[i]? = some o) (hw : Region.wanted o (yielded ops a.tmps) = true)
    (hy : ∀ w', (execOp a.eval o).run P w' = .ok (.value v) w') (h : wpPlanF ops P R ((i, fun _ => True) :: obl) r (a.put o.dst v) w) : wpPlanF ops P R obl (i :: r) a w :=
  ⟨o, v, fun _ => True, ho, .inl ⟨hw, fun w' _ => hy w'⟩, trivial, h⟩
theorem planF_read {R : Obl → Act → World → Prop} {obl : Obl} {i : Nat} {r : List Nat} {a : Act} {w : World} {o : Oper} {v : Value} (S : World → Prop) (ho : ops[i]? = some o) (hw : Region.wanted o (yielded ops a.tmps) = true)
    (hy : ∀ w', S w' → (execOp a.eval o).run P w' = .ok (.value v) w') (hS : S w) (h : wpPlanF ops P R ((i, S) :: obl) r (a.put o.dst v) w) : wpPlanF ops P R obl (i :: r) a w :=
  ⟨o, v, S, ho, .inl ⟨hw, hy⟩, hS, h⟩
theorem planF_cells {R : Obl → Act → World → Prop} {obl : Obl} {i : Nat} {r : List Nat} {a : Act} {w : World} {o : Oper} {v : Value} (l : List (Addr × Value)) (hc : ∀ p ∈ l, w.cell? p.1 = some p.2) (ho : ops[i]? = some o) (hw : Region.wanted o (yielded ops a.tmps) = true)
    (hy : ∀ w', (∀ p ∈ l, w'.cell? p.1 = some p.2) → (execOp a.eval o).run P w' = .ok (.value v) w') (h : wpPlanF ops P R ((i, fun w' => ∀ p ∈ l, w'.cell? p.1 = some p.2) :: obl) r (a.put o.dst v) w) : wpPlanF ops P R obl (i :: r) a w :=
  ⟨o, v, _, ho, .inl ⟨hw, hy⟩, hc, h⟩
theorem planF_end {R : Obl → Act → World → Prop} {obl : Obl} {a : Act} {w : World} (h : R obl a w) : wpPlanF ops P R obl [] a w := h
end
end Go.Proofs.YtjgonfnpfbifjaaGreatDoor
