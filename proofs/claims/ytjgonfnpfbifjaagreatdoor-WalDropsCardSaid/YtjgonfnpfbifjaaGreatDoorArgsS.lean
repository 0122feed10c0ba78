/- A law's argument that is a slice of structs: each struct's fields are numbers, bools, strings and lists of bytes. -/
import Derived.Test.YtjgonfnpfbifjaaGreatDoorArgs
import Derived.Deep.Fields
namespace Go.Proofs.YtjgonfnpfbifjaaGreatDoor
set_option maxRecDepth 20000
open Go.ChangeShapes Go.WideShapes Go.ChangeAt Go.RowKit Go.Deep

/-- A row of structs of k cells each, told by their cells. -/
structure RS (w : World) (X : Option Addr) (k : Nat) (L : List (List Value)) : Prop where
  at_ : 0 < L.length → ∃ b off, X = some ⟨b, off, none⟩ ∧ b < w.heap.size ∧ ∀ i cs, L[i]? = some cs → ∀ j v, cs[j]? = some v → w.cell? ⟨b, off + i * k + j, none⟩ = some v
theorem RS.below {w w' : World} {X : Option Addr} {k : Nat} {L : List (List Value)} (h : RS w X k L) (hb : Below w.heap.size w w') : RS w' X k L :=
  ⟨fun hn => by
    obtain ⟨b, off, e, hlt, hc⟩ := h.at_ hn
    exact ⟨b, off, e, Nat.lt_of_lt_of_le hlt hb.size, fun i cs hi j v hj => (hb.cell (p := ⟨b, _, none⟩) hlt).trans (hc i cs hi j v hj)⟩⟩
theorem RS.row {w : World} {X : Option Addr} {k : Nat} {L : List (List Value)} (h : RS w X k L) {i : Nat} (hi : i < L.length) : ∃ b off, X = some ⟨b, off, none⟩ ∧ b < w.heap.size ∧ ∀ j v, L[i][j]? = some v → w.cell? ⟨b, off + i * k + j, none⟩ = some v := by
  obtain ⟨b, off, e, hlt, hc⟩ := h.at_ (by omega)
  exact ⟨b, off, e, hlt, fun j v hj => hc i _ (List.getElem?_eq_getElem hi) j v hj⟩

theorem RS.get {w : World} {b off k : Nat} {L : List (List Value)} (h : RS w (some ⟨b, off, none⟩) k L) {i : Nat} {cs : List Value} (hi : L[i]? = some cs) (j : Nat) {v : Value} (hj : cs[j]? = some v) : w.cell? ⟨b, off + i * k + j, none⟩ = some v := by
  obtain ⟨b', off', e, _, hc⟩ := h.at_ (by have := (List.getElem?_eq_some_iff.1 hi).1; omega)
  injection e with e
  injection e with e1 e2
  subst e1 e2
  exact hc i cs hi j v hj

/-- The kinds of fields; a field's value. -/
inductive FK where
  | int (k : IntKind) | bool | str | bytes
inductive Fv where
  | int (k : IntKind) (n : Int) | bool (b : Bool) | str (l : List UInt8) | bytes (A : Option Addr) (c : Nat) (l : List UInt8)
instance : Inhabited Fv := ⟨.bool false⟩
def Fv.val : Fv → Value
  | .int k n => .int k n
  | .bool b => .bool b
  | .str l => .string ⟨l.toArray⟩
  | .bytes A c l => .slice A l.length c
def Fv.ok (w : World) : FK → Fv → Prop
  | .int k, .int k' n => k' = k ∧ (Lit.int k n).wf = true
  | .bool, .bool _ => True
  | .str, .str l => l.length ≤ 140737488351232
  | .bytes, .bytes A c l => RB w A l ∧ l.length ≤ c ∧ c ≤ 9223372036854775807 ∧ l.length ≤ 140737488351232
  | _, _ => False
def rowOk (w : World) : List FK → List Fv → Prop
  | [], [] => True
  | k :: ks, v :: vs => v.ok w k ∧ rowOk w ks vs
  | _, _ => False
theorem Fv.ok.below {w w' : World} {k : FK} {v : Fv} (h : v.ok w k) (hb : Below w.heap.size w w') : v.ok w' k := by
  cases k <;> cases v <;> first | exact h | exact ⟨h.1.below hb, h.2⟩
theorem rowOk.below {w w' : World} (hb : Below w.heap.size w w') : ∀ {ks : List FK} {vs : List Fv}, rowOk w ks vs → rowOk w' ks vs
  | [], [], h => h
  | _ :: _, _ :: _, h => ⟨h.1.below hb, rowOk.below hb h.2⟩
  | [], _ :: _, h => h.elim
  | _ :: _, [], h => h.elim
def FK.is (P : Program) (t : TypeId) : FK → Bool
  | .int k => match P.underlying t with | some (.int k') => decide (k' = k) | _ => false
  | .bool => match P.underlying t with | some .bool => true | _ => false
  | .str => match P.underlying t with | some .string => true | _ => false
  | .bytes => match P.underlying t with
    | some (.slice e) => (match P.underlying e with | some (.int .u8) => true | _ => false) && P.cellsOf e == 1 && P.bytesOf e == 1
    | _ => false

section
variable {H : Type} {enc : TypeId × Value → H} {W : World}

theorem weights_slice_elem {P : Program} {t e : TypeId} {D : Nat → DataW H} {n : Nat} {spare : List (DataW H)} (hu : P.underlying t = some (.slice e)) (h : (DataW.weights P t (.slice ((List.range n).map D) spare)).all (· ≤ reachBytes) = true) {i : Nat} (hi : i < n) :
    ((D i).weights P e).all (· ≤ reachBytes) = true := by
  rw [DataW.weights] at h
  simp only [hu, List.all_cons, List.all_append, Bool.and_eq_true] at h
  obtain ⟨_, h1, _⟩ := h
  have key : ∀ l : List (DataW H), (DataW.weightsAll P e l).all (· ≤ reachBytes) = true → ∀ d ∈ l, (d.weights P e).all (· ≤ reachBytes) = true := by
    intro l
    induction l with
    | nil => intro _ d hd; cases hd
    | cons x r ih =>
      intro h d hd
      rw [DataW.weightsAll, List.all_append, Bool.and_eq_true] at h
      rcases List.mem_cons.1 hd with rfl | hd
      · exact h.1
      · exact ih h.2 d hd
  exact key _ h1 _ (List.mem_map.2 ⟨i, by simpa using hi, rfl⟩)

theorem weights_each_get {P : Program} : ∀ {ts : List TypeId} {ds : List (DataW H)}, (DataW.weightsEach P ts ds).all (· ≤ reachBytes) = true → ∀ {j : Nat} {t : TypeId} {d : DataW H}, ts[j]? = some t → ds[j]? = some d → (d.weights P t).all (· ≤ reachBytes) = true := by
  intro ts ds h j t d ht hd
  rw [List.all_eq_true] at h ⊢
  exact fun n hn => h n (DataW.weights_mem_each ht hd n hn)

theorem weights_struct_field {P : Program} {t : TypeId} {fs : Array Field} {ys : List (DataW H)} (hu : P.underlying t = some (.struct fs)) (h : (DataW.weights P t (.agg ys)).all (· ≤ reachBytes) = true) {j : Nat} {f : Field} {d : DataW H} (hf : fs[j]? = some f) (hd : ys[j]? = some d) :
    (d.weights P f.type).all (· ≤ reachBytes) = true := by
  rw [DataW.weights] at h
  simp only [hu] at h
  exact weights_each_get h (by simpa using ⟨f, by simpa using hf, rfl⟩) hd

/-- A field, read. -/
theorem field_of_trod {t : TypeId} {k : FK} {v : Value} {y : DataW H × List MemPlace} {fuel : Nat} (hk : k.is Tryz.prog t = true) (h : DataW.trod enc Tryz.prog W 0 (fun _ => true) true fuel t [v] = some y) (hw : (y.1.weights Tryz.prog t).all (· ≤ reachBytes) = true) :
    ∃ f : Fv, v = f.val ∧ f.ok W k := by
  cases k with
  | int k =>
    simp only [FK.is] at hk
    split at hk
    · rename_i k' hu
      have := of_decide_eq_true hk
      subst this
      obtain ⟨n, hc, _, hwf⟩ := DataW.trod_int hu h
      simp only [List.cons.injEq, and_true] at hc
      exact ⟨.int _ n, hc, rfl, hwf⟩
    · cases hk
  | bool =>
    simp only [FK.is] at hk
    split at hk
    · rename_i hu
      obtain ⟨b, hc, _⟩ := DataW.trod_bool hu h
      simp only [List.cons.injEq, and_true] at hc
      exact ⟨.bool b, hc, trivial⟩
    · cases hk
  | str =>
    simp only [FK.is] at hk
    split at hk
    · rename_i hu
      obtain ⟨s, hc, hy, _⟩ := DataW.trod_string hu h
      simp only [List.cons.injEq, and_true] at hc
      refine ⟨.str s.data.toList, by simpa [Fv.val] using hc, ?_⟩
      rw [hy] at hw
      simp only [DataW.weights, List.all_cons, List.all_nil, Bool.and_true, decide_eq_true_eq] at hw
      show s.data.toList.length ≤ _
      unfold reachBytes at hw
      omega
    · cases hk
  | bytes =>
    simp only [FK.is] at hk
    split at hk
    · rename_i e hu
      simp only [Bool.and_eq_true, beq_iff_eq] at hk
      obtain ⟨⟨he, hc1⟩, hb1⟩ := hk
      split at he
      · rename_i hue
        obtain ⟨A, c, zs, hcs, hcm⟩ := came_trod hu hue hc1 h
        simp only [List.cons.injEq, and_true] at hcs
        obtain ⟨l, hl, hr⟩ := hcm.bytes
        refine ⟨.bytes A c l, by rw [hcs, Fv.val, hl], hr, by rw [hl]; exact hcm.cap, hcm.most, ?_⟩
        rcases hcm.datum with ⟨_, hz⟩ | ⟨elems, spare, hy, hel⟩
        · rw [hl, hz]; simp
        · rw [hy] at hw
          simp only [DataW.weights, hu, List.all_cons, Bool.and_eq_true, decide_eq_true_eq, hb1] at hw
          have := hw.1
          unfold reachBytes at this
          omega
      · cases he
    · cases hk

def kindsOk (P : Program) : List FK → List Field → Bool
  | [], [] => true
  | k :: ks, f :: fs => k.is P f.type && kindsOk P ks fs
  | _, _ => false

theorem rows_of_fields {ks : List FK} {fs : List Field} : ∀ (hk : kindsOk Tryz.prog ks fs = true) (cs : List Value), cs.length = fs.length →
    (∀ (j : Nat) (f : Field), fs[j]? = some f → ∀ v, cs[j]? = some v → ∃ (y : DataW H × List MemPlace) (n : Nat), DataW.trod enc Tryz.prog W 0 (fun _ => true) true n f.type [v] = some y ∧ (y.1.weights Tryz.prog f.type).all (· ≤ reachBytes) = true) → ∃ r : List Fv, cs = r.map Fv.val ∧ rowOk W ks r := by
  induction ks generalizing fs with
  | nil =>
    intro hk cs hl h
    cases fs with
    | nil =>
      have : cs = [] := List.eq_nil_of_length_eq_zero hl
      exact ⟨[], by simpa using this, trivial⟩
    | cons f fs => simp [kindsOk] at hk
  | cons k ks ih =>
    intro hk cs hl h
    cases fs with
    | nil => simp [kindsOk] at hk
    | cons f fs =>
      cases cs with
      | nil => simp at hl
      | cons c cs =>
        simp only [kindsOk, Bool.and_eq_true] at hk
        obtain ⟨y, n, h1, h2⟩ := h 0 f rfl c rfl
        obtain ⟨v, hv, hok⟩ := field_of_trod hk.1 h1 h2
        obtain ⟨r, hr, hro⟩ := ih hk.2 cs (by simpa using hl) (fun j f hj v hv => h (j + 1) f (by simpa using hj) v (by simpa using hv))
        exact ⟨v :: r, by rw [hv, hr]; rfl, hok, hro⟩

/-- A slice of structs that came in. -/
theorem cameS {base : Nat} {t e : TypeId} {fs : Array Field} {v : Value} {d : DataW H} {p : List MemPlace} (ks : List FK) (ht : Tryz.prog.underlying t = some (.slice e)) (he : Tryz.prog.underlying e = some (.struct fs)) (hC : Tryz.prog.cellsOf e = fs.size) (hC0 : 0 < fs.size) (hone : oneCellFields Tryz.prog fs = true)
    (hks : kindsOk Tryz.prog ks fs.toList = true) (hv : Value.okWide Tryz.prog W .any base t v) (h : DataW.Trod enc Tryz.prog W 0 (fun _ => true) true t v d p) (hw : (d.weights Tryz.prog t).all (· ≤ reachBytes) = true) :
    ∃ (A : Option Addr) (c : Nat) (L : List (List Fv)), v = .slice A L.length c ∧ L.length ≤ c ∧ c ≤ 9223372036854775807 ∧ RS W A fs.size (L.map (·.map Fv.val)) ∧ (∀ r ∈ L, rowOk W ks r) ∧
      ((d = .nil ∧ L = []) ∨ ∃ (D : Nat → DataW H) (spare : List (DataW H)), d = .slice ((List.range L.length).map D) spare) := by
  obtain ⟨A, len, cap, rfl⟩ := okWide_slice ht hv
  obtain ⟨fuel, hf⟩ := h
  rcases open_slice ht hf with ⟨hcs, hx⟩ | ⟨a, len', cap', m, n, D, Pl, hcs, _, hl, hm, hmm, hx, hi⟩
  · simp [Value.cells] at hcs
    obtain ⟨rfl, rfl, rfl⟩ := hcs
    exact ⟨none, 0, [], rfl, by simp, by omega, ⟨by simp⟩, by simp, .inl ⟨by simpa using congrArg Prod.fst hx, rfl⟩⟩
  · simp [Value.cells] at hcs
    obtain ⟨rfl, rfl, rfl⟩ := hcs
    have hm' : m = cap := by simpa using hmm
    have hd : d = .slice ((List.range len).map D) ((List.range (m - len)).map fun j => D (len + j)) := by simpa using congrArg Prod.fst hx
    have each : ∀ i, i < len → ∃ r : List Fv, rowOk W ks r ∧ W.cells? 0 (a.add (i * Tryz.prog.cellsOf e)) (Tryz.prog.cellsOf e) = some (r.map Fv.val) := by
      intro i hlt
      obtain ⟨cs, hcl, htr⟩ := hi i (by omega)
      obtain ⟨ys, m', _, hy, hlen, hyl, hg⟩ := DataW.trod_struct he htr
      have hy1 : D i = .agg (ys.map (·.1)) := by simpa using congrArg Prod.fst hy
      have hwi : ((D i).weights Tryz.prog e).all (· ≤ reachBytes) = true := weights_slice_elem ht (by rw [← hd]; exact hw) hlt
      rw [hy1] at hwi
      obtain ⟨r, hr, hok⟩ := rows_of_fields (W := W) (enc := enc) hks cs (by rw [hlen, hC]; simp) (fun j f hj v hv => by
        have hj' : fs[j]? = some f := by simpa using hj
        obtain ⟨ho, hk⟩ := hone_of hone j f hj'
        have hjl : j < fs.size := (Array.getElem?_eq_some_iff.1 hj').1
        have h1 := hg j f hj'
        have hjc : j < cs.length := by rw [hlen, hC]; exact hjl
        have hvv : cs[j] = v := by rw [List.getElem?_eq_getElem hjc] at hv; simpa using hv
        rw [ho, hk, show (cs.drop j).take 1 = [v] from by rw [List.drop_eq_getElem_cons hjc, hvv]; rfl] at h1
        rw [List.getElem?_eq_getElem (by omega)] at h1
        exact ⟨_, _, h1, weights_struct_field he hwi hj' (by rw [List.getElem?_map, List.getElem?_eq_getElem (by omega)]; rfl)⟩)
      exact ⟨r, hok, by rw [hcl, hr]⟩
    obtain ⟨f, hfun⟩ := choose_lt each
    refine ⟨some a, cap, (List.range len).map f, by simp, by simpa using hl, by unfold maxLen at hm; omega, ⟨fun hn => ?_⟩, fun r hr => ?_, .inr ⟨D, _, by rw [List.length_map, List.length_range]; exact hd⟩⟩
    · have hn' : 0 < len := by simpa using hn
      have hcell : ∀ i, i < len → ∀ j v, ((f i).map Fv.val)[j]? = some v → W.cell? ((a.add (i * fs.size)).add j) = some v := by
        intro i hlt j v hj
        have h1 := (hfun i hlt).2
        rw [hC] at h1
        obtain ⟨_, hl2, hat⟩ := World.cells?_some h1
        have hjl : j < fs.size := by rw [← hl2]; exact (List.getElem?_eq_some_iff.1 hj).1
        rw [hat j hjl, hj]
      have hl2 : ((f 0).map Fv.val).length = fs.size := by
        have h1 := (hfun 0 hn').2
        rw [hC] at h1
        exact (World.cells?_some h1).2.1
      have h0 := hcell 0 hn' 0 _ (List.getElem?_eq_getElem (show 0 < ((f 0).map Fv.val).length by omega))
      obtain ⟨b, off, spot⟩ := a
      have hspot : spot = none := by simpa [Addr.add] using World.cell?_spot h0
      subst hspot
      have hadd : ∀ o j, (⟨b, o, none⟩ : Addr).add j = ⟨b, o + j, none⟩ := by intro o j; unfold Addr.add; split <;> simp_all
      refine ⟨b, off, rfl, World.block_lt_of_cell? W ⟨b, off, none⟩ (u := _) (by simpa [Addr.add] using h0), fun i cs hi j v hj => ?_⟩
      simp only [List.map_map, List.getElem?_map] at hi
      obtain ⟨i', hi', rfl⟩ := Option.map_eq_some_iff.1 hi
      have hil : i < len := by
        have := (List.getElem?_eq_some_iff.1 hi').1
        simpa using this
      rw [List.getElem?_range hil] at hi'
      injection hi' with hi'
      subst hi'
      have := hcell i hil j v hj
      rwa [hadd, hadd] at this
    · obtain ⟨i, hi', rfl⟩ := List.mem_map.1 hr
      exact (hfun i (by simpa using hi')).1
/-- A slice of bools that came in. -/
theorem cameBools {base : Nat} {t e : TypeId} {v : Value} {d : DataW H} {p : List MemPlace} (ht : Tryz.prog.underlying t = some (.slice e)) (he : Tryz.prog.underlying e = some .bool) (hC : Tryz.prog.cellsOf e = 1)
    (hv : Value.okWide Tryz.prog W .any base t v) (h : DataW.Trod enc Tryz.prog W 0 (fun _ => true) true t v d p) :
    ∃ (A : Option Addr) (c : Nat) (bs : List Bool), v = .slice A bs.length c ∧ bs.length ≤ c ∧ c ≤ 9223372036854775807 ∧ RV W A (bs.map Value.bool) := by
  obtain ⟨A, len, cap, rfl⟩ := okWide_slice ht hv
  obtain ⟨fuel, hf⟩ := h
  rcases open_slice1 ht hC hf with ⟨hcs, _⟩ | ⟨a, len', cap', m, n, V, D, Pl, hcs, _, hl, hm, hmm, hx, hi⟩
  · simp [Value.cells] at hcs
    obtain ⟨rfl, rfl, rfl⟩ := hcs
    exact ⟨none, 0, [], rfl, by simp, by omega, by simpa using RV.nil⟩
  · simp [Value.cells] at hcs
    obtain ⟨rfl, rfl, rfl⟩ := hcs
    have hm' : m = cap := by simpa using hmm
    have each : ∀ i, i < len → ∃ b : Bool, W.cell? (a.add i) = some (.bool b) := by
      intro i hlt
      obtain ⟨h1, h2⟩ := hi i (by omega)
      obtain ⟨b, hb, _⟩ := DataW.trod_bool he h2
      simp only [List.cons.injEq, and_true] at hb
      exact ⟨b, by rw [h1, hb]⟩
    obtain ⟨f, hfun⟩ := choose_lt each
    refine ⟨some a, cap, (List.range len).map f, by simp, by simpa using hl, by unfold maxLen at hm; omega, ⟨fun hn => ?_⟩⟩
    have hn' : 0 < len := by simpa using hn
    have h0 := hfun 0 hn'
    obtain ⟨b, off, spot⟩ := a
    have hspot : spot = none := by simpa [Addr.add] using World.cell?_spot h0
    subst hspot
    have hadd : ∀ o j, (⟨b, o, none⟩ : Addr).add j = ⟨b, o + j, none⟩ := by intro o j; unfold Addr.add; split <;> simp_all
    refine ⟨b, off, rfl, World.block_lt_of_cell? W ⟨b, off, none⟩ (u := .bool (f 0)) (by simpa [Addr.add] using h0), fun j x hx => ?_⟩
    simp only [List.map_map, List.getElem?_map] at hx
    obtain ⟨i', hi', rfl⟩ := Option.map_eq_some_iff.1 hx
    have hil : j < len := by
      have := (List.getElem?_eq_some_iff.1 hi').1
      simpa using this
    rw [List.getElem?_range hil] at hi'
    injection hi' with hi'
    subst hi'
    have := hfun j hil
    rwa [hadd] at this
end
end Go.Proofs.YtjgonfnpfbifjaaGreatDoor
