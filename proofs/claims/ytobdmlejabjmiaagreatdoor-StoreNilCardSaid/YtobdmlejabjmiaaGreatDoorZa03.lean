/- Put together of: Vals, Fr, Lift, Args, ArgsS. -/
import Derived.Test.YtobdmlejabjmiaaGreatDoorZa01
import Derived.Lib.SlBytesConst
import Derived.Laws.CopyOwn
import Derived.Test.YtobdmlejabjmiaaGreatDoorRows
import Derived.WalkKit
import Derived.ProofKit
import Derived.OpenShut
import Derived.ShutString
import Derived.ChangeOld
import Derived.Below
import Derived.SizedLaws
import Derived.Deep.CondSized
import Derived.Deep.Slices
import Derived.JoinedCond
import Derived.Deep.Fields
/- Vals: put together by merge.py of: Vals, I64, Conv, Blk. -/
/- 'append(s, x...)' for elements of one cell each. -/
namespace Go.Proofs.YtobdmlejabjmiaaGreatDoor
open Go.RowKit

theorem OV.made0 (w : World) {base : Nat} (T : TypeId) (hb : base ≤ w.heap.size) : OV (w.alloc (.cells #[] T)) base T (some ⟨w.heap.size, 0, none⟩) 0 [] :=
  World.ownsRow_made w #[] 0 hb (Nat.zero_le _) rfl

end Go.Proofs.YtobdmlejabjmiaaGreatDoor
/- int64. -/
namespace Go.Proofs.YtobdmlejabjmiaaGreatDoor
def I64 (n : Int) : Prop := -9223372036854775808 ≤ n ∧ n ≤ 9223372036854775807
end Go.Proofs.YtobdmlejabjmiaaGreatDoor
/- Bytes as a string, strings put together. -/
namespace Go.Proofs.YtobdmlejabjmiaaGreatDoor
open Go.RowKit

theorem fold_bytes (l : List UInt8) : ∀ s : ByteArray, (l.map fun x => (x.toNat : Int)).foldl (fun r n => r.push (UInt8.ofNat n.toNat)) s = ⟨(s.data.toList ++ l).toArray⟩ := by
  induction l with
  | nil => intro s; simp
  | cons x l ih =>
    intro s
    simp only [List.map_cons, List.foldl_cons, ih, Int.toNat_natCast]
    simp [ByteArray.push]

/-- 'string(b)' of bytes that are there. -/
theorem convB {W : World} {A : Option Addr} {l : List UInt8} (c : Nat) (h : RB W A l) :
    (convert 34 9 (.slice A l.length c)).run Tryz.prog W = .ok (.string ⟨l.toArray⟩) W := by
  rw [run_convert_bytes_string (P := Tryz.prog) W 34 9 5 A l.length c Tryz.underlying34 Tryz.underlying5 Tryz.underlying9]
  rcases A with _ | ad
  · have hl0 : l = [] := by
      rcases Nat.eq_zero_or_pos l.length with h0 | h0
      · exact List.eq_nil_of_length_eq_zero h0
      · obtain ⟨b, off, e, _⟩ := h.at_ h0; cases e
    subst hl0
    simp [Conv.bytesToString]
    rfl
  · have hcells : ∀ j v, (bcells l)[j]? = some v → W.cell? (ad.add j) = some v := by
      rcases Nat.eq_zero_or_pos l.length with h0 | h0
      · have hl0 : l = [] := List.eq_nil_of_length_eq_zero h0
        subst hl0
        simp [bcells]
      · obtain ⟨b, off, e, _, hcl⟩ := h.at_ h0
        injection e with e
        subst e
        intro j u hu
        rw [bcells_get] at hu
        obtain ⟨y, hy, rfl⟩ := Option.map_eq_some_iff.1 hu
        have hadd : (⟨b, off, none⟩ : Addr).add j = ⟨b, off + j, none⟩ := by unfold Addr.add; split <;> simp_all
        rw [hadd]
        exact hcl j y hy
    have hload := run_loadCells_list (P := Tryz.prog) W ad (bcells l) hcells
    rw [bcells_length] at hload
    have e : bcells l = (l.map fun x => (x.toNat : Int)).map (Value.int .u8) := by simp [bcells]
    rw [run_bytesToString W ad l.length c (l.map fun x => (x.toNat : Int)) (by rw [hload, e]), fold_bytes]
    simp

theorem concatB (x y : List UInt8) (h : x.length + y.length ≤ 9223372036854775807) (W : World) : (Op.stringOp .add ⟨x.toArray⟩ ⟨y.toArray⟩).run Tryz.prog W = .ok (.string ⟨(x ++ y).toArray⟩) W := by
  rw [run_string_add_sum W _ _ (by simp [ByteArray.size]; omega), ByteArray.mk_append_mk]
end Go.Proofs.YtobdmlejabjmiaaGreatDoor
/- A variable of several cells in a block of its own: what its cells hold, that they may be written, what the block is behind a store. -/
namespace Go.Proofs.YtobdmlejabjmiaaGreatDoor
open Go.RowKit

/-- Block g holds these cells, a variable of type T. -/
def Blk (w : World) (g : Nat) (T : TypeId) (cs : Array Value) : Prop := w.heap[g]? = some (.cells cs T (0, 0))

section
variable {w w' : World} {g : Nat} {T : TypeId} {cs : Array Value}
theorem Blk.new (w : World) (cs : Array Value) (T : TypeId) : Blk (w.alloc (.cells cs T)) w.heap.size T cs := heap_alloc_new w _
theorem Blk.lt (h : Blk w g T cs) : g < w.heap.size := lt_of_block h
theorem Blk.cell (h : Blk w g T cs) (j : Nat) {v : Value} (hv : cs[j]? = some v) : w.cell? ⟨g, j, none⟩ = some v := by
  rw [cell_of_row w g j cs T (0, 0) h]; exact hv
theorem Blk.free (h : Blk w g T cs) (j : Nat) : w.frozen? ⟨g, j, none⟩ = false := by simp [World.frozen?, show w.heap[g]? = _ from h]
theorem Blk.below {B : Nat} (h : Blk w g T cs) (hb : Below B w w') (hg : g < B) : Blk w' g T cs := by
  unfold Blk; rw [hb.block g hg]; exact h
theorem Blk.kept (h : Blk w g T cs) (hb : Below w.heap.size w w') : Blk w' g T cs := h.below hb h.lt
theorem Blk.grown {row : Option Nat} (h : Blk w g T cs) (hg : w.grownBy w' row) (hne : row ≠ some g) : Blk w' g T cs := by
  unfold Blk; rw [hg.block g h.lt (fun e => hne e.symm)]; exact h
theorem Blk.setRow (h : Blk w g T cs) (ds : Array Value) : Blk (w.setRow g ds) g T ds := setRow_heap w g cs ds T (0, 0) h
theorem Blk.setRow_other {k : Nat} (h : Blk w g T cs) (ds : Array Value) (hk : g ≠ k) : Blk (w.setRow k ds) g T cs := by
  unfold Blk; rw [Go.setRow_other w k g ds hk]; exact h
theorem Blk.setCell (h : Blk w g T cs) (j : Nat) (v : Value) : Blk (w.setCell ⟨g, j, none⟩ v) g T (cs.setIfInBounds j v) := by
  unfold Blk
  rw [setCell_eq_setRow w g j cs T (0, 0) v h]
  exact setRow_heap w g cs _ T (0, 0) h
theorem Blk.setCell_other {a : Addr} (h : Blk w g T cs) (v : Value) (hk : g ≠ a.block) : Blk (w.setCell a v) g T cs := by
  unfold Blk; rw [Below.heap_setCell w a v g hk]; exact h
theorem Blk.drewN (h : Blk w g T cs) (n : Nat) : Blk (w.drewN n) g T cs := h

theorem ownsRow_setRow {base k : Nat} {e : TypeId} {size : Nat} {v : Value} {n : Nat} {xs : List Value} (h : w.ownsRow base e size v n xs) (hk : v.ownBlock ≠ some k) (ds : Array Value) : (w.setRow k ds).ownsRow base e size v n xs := by
  obtain ⟨h1, h2⟩ := h
  refine ⟨h1, ?_⟩
  rcases h2 with h2 | ⟨g, cap, cur, hv, hg, hh, r⟩
  · exact Or.inl h2
  · subst hv
    exact Or.inr ⟨g, cap, cur, rfl, hg, by rw [Go.setRow_other w k g ds (fun e => hk (by simp [Value.ownBlock, e]))]; exact hh, r⟩
theorem OB.setRow {base k : Nat} {A : Option Addr} {c : Nat} {l : List UInt8} (h : OB w base A c l) (hk : A.map (·.block) ≠ some k) (ds : Array Value) : OB (w.setRow k ds) base A c l :=
  ownsRow_setRow h (by rw [own_blk]; exact hk) ds
theorem OB.setCell {base : Nat} {A : Option Addr} {c : Nat} {l : List UInt8} {a : Addr} (h : OB w base A c l) (hk : a.block < base) (v : Value) : OB (w.setCell a v) base A c l :=
  ownsRow_setCell_below h hk v
theorem OB.blk_ne {base k : Nat} {A : Option Addr} {c : Nat} {l : List UInt8} (h : OB w base A c l) (hk : k < base) : A.map (·.block) ≠ some k := by
  intro e
  have := (h.own_lt k (by rw [own_blk]; exact e)).1
  omega
theorem RB.setCell {a : Addr} {A : Option Addr} {l : List UInt8} (h : RB w A l) (hk : ∀ b off, 0 < l.length → A = some ⟨b, off, none⟩ → b ≠ a.block) (v : Value) : RB (w.setCell a v) A l :=
  h.keep (by simp [World.setCell]) fun b off hn e _ j => World.cell?_of_block (w := w) (Below.heap_setCell w a v b (hk b off hn e))
theorem RB.setRow {k : Nat} {A : Option Addr} {l : List UInt8} (h : RB w A l) (hk : ∀ b off, 0 < l.length → A = some ⟨b, off, none⟩ → b ≠ k) (ds : Array Value) : RB (w.setRow k ds) A l :=
  h.keep (by simp) fun b off hn e _ j => cell_setRow_other w k ds _ (hk b off hn e)
end
end Go.Proofs.YtobdmlejabjmiaaGreatDoor


/- What a call may change: 'Mods S w w'': of what was there in w the blocks of S alone; and how what is known of memory stands across it. -/
namespace Go.Proofs.YtobdmlejabjmiaaGreatDoor
open Go.RowKit

/-- Of what was there, the blocks of S alone are changed. -/
structure Mods (S : Nat → Prop) (w w' : World) : Prop where
  os : w'.os = w.os
  tape : w'.tape = w.tape
  output : w'.output = w.output
  size : w.heap.size ≤ w'.heap.size
  block : ∀ k, k < w.heap.size → ¬ S k → w'.heap[k]? = w.heap[k]?

section
variable {S T : Nat → Prop} {w a b w' : World}
theorem Mods.refl (S : Nat → Prop) (w : World) : Mods S w w := ⟨rfl, rfl, rfl, Nat.le_refl _, fun _ _ _ => rfl⟩
theorem Mods.trans (h : Mods S w a) (k : Mods T a b) (hs : ∀ i, T i → S i ∨ w.heap.size ≤ i) : Mods S w b :=
  ⟨k.os.trans h.os, k.tape.trans h.tape, k.output.trans h.output, Nat.le_trans h.size k.size, fun i hi hn => (k.block i (Nat.lt_of_lt_of_le hi h.size) fun ht => by
    rcases hs i ht with h1 | h1
    · exact hn h1
    · omega).trans (h.block i hi hn)⟩
theorem Mods.then (h : Mods S w a) (k : Mods S a b) : Mods S w b := h.trans k fun _ h => .inl h
theorem Mods.mono (h : Mods S w a) (hs : ∀ i, i < w.heap.size → S i → T i) : Mods T w a := ⟨h.os, h.tape, h.output, h.size, fun i hi hn => h.block i hi fun hs' => hn (hs i hi hs')⟩
theorem Mods.of_below (h : Below w.heap.size w a) : Mods S w a := ⟨h.os, h.tape, h.output, h.size, fun i hi _ => h.block i hi⟩
theorem Mods.of_grown {row : Option Nat} (h : w.grownBy a row) (hs : ∀ k, row = some k → S k) : Mods S w a := ⟨h.os, h.tape, h.output, h.size, fun i hi hn => h.block i hi fun e => hn (hs i e.symm)⟩
theorem Mods.below (h : Mods S w a) (k : Below a.heap.size a b) : Mods S w b := h.then (.of_below k)
theorem Mods.alloc (h : Mods S w a) (o : Obj) : Mods S w (a.alloc o) := h.below ((Below.refl _ _).alloc (Nat.le_refl _) o)
theorem Mods.drewN (h : Mods S w a) (n : Nat) : Mods S w (a.drewN n) := ⟨h.os, h.tape, h.output, h.size, h.block⟩
theorem Mods.setCell (h : Mods S w a) (p : Addr) (hp : S p.block ∨ w.heap.size ≤ p.block) (v : Value) : Mods S w (a.setCell p v) :=
  h.trans (T := fun i => i = p.block) ⟨rfl, rfl, rfl, by simp [World.setCell], fun i _ hn => Below.heap_setCell a p v i hn⟩ fun i hi => by subst hi; exact hp
theorem Mods.setRow (h : Mods S w a) (g : Nat) (hp : S g ∨ w.heap.size ≤ g) (cs : Array Value) : Mods S w (a.setRow g cs) :=
  h.trans (T := fun i => i = g) ⟨rfl, rfl, rfl, by simp, fun i _ hn => Go.setRow_other a g i cs hn⟩ fun i hi => by subst hi; exact hp
theorem Mods.setObj (h : Mods S w a) (g : Nat) (hp : S g ∨ w.heap.size ≤ g) (o : Obj) : Mods S w { a with heap := a.heap.setIfInBounds g o } :=
  h.trans (T := fun i => i = g) ⟨rfl, rfl, rfl, by simp, fun i _ hn => by simp [Array.getElem?_setIfInBounds, Ne.symm hn]⟩ fun i hi => by subst hi; exact hp
/-- What lies below B stays below B. -/
theorem Mods.old {B : Nat} {w0 : World} (h0 : Below B w0 w) (h : Mods S w a) (hB : B ≤ w.heap.size) (hs : ∀ i, i < w.heap.size → S i → B ≤ i) : Below B w0 a :=
  ⟨h.os.trans h0.os, h.tape.trans h0.tape, h.output.trans h0.output, Nat.le_trans h0.size h.size, fun i hi => (h.block i (by omega) fun hs' => by
    have := hs i (by omega) hs'; omega).trans (h0.block i hi)⟩
theorem Mods.cell (h : Mods S w a) {p : Addr} (hp : p.block < w.heap.size) (hn : ¬ S p.block) : a.cell? p = w.cell? p := World.cell?_of_block (w := w) (h.block _ hp hn)

theorem Blk.mods {g : Nat} {Ty : TypeId} {cs : Array Value} (h : Blk w g Ty cs) (m : Mods S w a) (hn : ¬ S g) : Blk a g Ty cs := by
  unfold Blk; rw [m.block g h.lt hn]; exact h
theorem RB.mods {A : Option Addr} {l : List UInt8} (h : RB w A l) (m : Mods S w a) (hn : 0 < l.length → ∀ k, A.map (·.block) = some k → ¬ S k) : RB a A l :=
  h.keep m.size fun b off h0 e hlt j => m.cell (p := ⟨b, _, none⟩) hlt (hn h0 b (by rw [e]; rfl))
theorem OB.mods {base c : Nat} {A : Option Addr} {l : List UInt8} (h : OB w base A c l) (m : Mods S w a) (hn : ∀ k, A.map (·.block) = some k → ¬ S k) : OB a base A c l := by
  refine ⟨h.1, ?_⟩
  rcases h.2 with h2 | ⟨g, cap, cur, hv, hg, hh, r⟩
  · exact .inl h2
  · injection hv with hv1 hv2 hv3
    subst hv1 hv3
    exact .inr ⟨g, _, cur, rfl, hg, by rw [m.block g (lt_of_block hh) (hn g rfl)]; exact hh, r⟩
end

/-- What is known of a row of bytes by its block's kind: another kind of block is another block. -/
theorem RB.blk_ne {w : World} {A : Option Addr} {l : List UInt8} (h : RB w A l) (hl : 0 < l.length) {g : Nat} {o : Obj} (hg : w.heap[g]? = some o) (ho : ∀ cs fr, o ≠ .cells cs 5 fr) (hu : ∀ cs T fr, o = .cells cs T fr → ∀ (j : Nat) (n : Int), cs[j]? ≠ some (Value.int .u8 n)) : A.map (·.block) ≠ some g := by
  intro e
  obtain ⟨b, off, rfl, hb, hc⟩ := h.at_ hl
  have e' : b = g := by simpa using e
  subst e'
  have h0 := hc 0 _ (List.getElem?_eq_getElem hl)
  unfold World.cell? at h0
  rw [hg] at h0
  cases o with
  | cells cs T fr => simp at h0; exact hu cs T fr rfl _ _ h0
  | _ => simp at h0

theorem OB.blk_lt {w : World} {base : Nat} {A : Option Addr} {c : Nat} {l : List UInt8} (h : OB w base A c l) : ∀ k, A.map (·.block) = some k → base ≤ k ∧ k < w.heap.size := fun k hk => h.own_lt k (by rw [own_blk]; exact hk)
theorem OB.store {w : World} {base : Nat} {A : Option Addr} {c : Nat} {l : List UInt8} (h : OB w base A c l) {k : Nat} (hk : k < l.length) : ∃ g, A = some ⟨g, 0, none⟩ ∧ base ≤ g ∧ g < w.heap.size ∧
    w.cell? ⟨g, k, none⟩ = some (.int .u8 (l[k].toNat : Int)) ∧ w.frozen? ⟨g, k, none⟩ = false ∧
    ∀ (y : UInt8) (V : Int), V = (y.toNat : Int) → OB (w.setCell ⟨g, k, none⟩ (.int .u8 V)) base A c (l.set k y) ∧ w.grownBy (w.setCell ⟨g, k, none⟩ (.int .u8 V)) (some g) := by
  rcases h.form with ⟨_, _, rfl⟩ | ⟨g, rfl, hb, hg, _, _⟩
  · simp at hk
  · refine ⟨g, rfl, hb, hg, ?_, World.ownsRow.frozenAt h k, fun y V hV => ?_⟩
    · have := World.ownsRow.cellAt h k (by omega)
      rw [this, bcells_get, List.getElem?_eq_getElem hk]
      rfl
    · subst hV
      have := World.ownsRow.stored h k (.int .u8 (y.toNat : Int))
      refine ⟨?_, this.2⟩
      have e : (bcells l).set k (.int .u8 (y.toNat : Int)) = bcells (l.set k y) := by simp [bcells, List.map_set]
      rw [e] at this
      unfold OB
      rw [List.length_set]
      exact this.1
theorem RB.take {w : World} {A : Option Addr} {l : List UInt8} (h : RB w A l) (n : Nat) : RB w A (l.take n) := by
  refine ⟨fun hn => ?_⟩
  obtain ⟨b, off, e, hb, hc⟩ := h.at_ (by simp at hn; omega)
  refine ⟨b, off, e, hb, fun j x hx => hc j x ?_⟩
  rw [List.getElem?_take] at hx
  split at hx
  · exact hx
  · cases hx
theorem RB.blk_lt {w : World} {A : Option Addr} {l : List UInt8} (h : RB w A l) (hl : 0 < l.length) : ∀ k, A.map (·.block) = some k → k < w.heap.size := by
  intro k hk
  obtain ⟨b, off, rfl, hb, _⟩ := h.at_ hl
  have : b = k := by simpa using hk
  omega
end Go.Proofs.YtobdmlejabjmiaaGreatDoor


/- The frame of a law's claim: from a walk that ends with true and writes nothing that was there, to the row's post. -/
namespace Go.Proofs.YtobdmlejabjmiaaGreatDoor
open Go.ChangeShapes Go.WideShapes Go.ChangeAt Go.RowKit
open Go.ChangeMaps (open_string shut_string)

theorem own : ownKnob Tryz.prog.godebug = none := by kernel_rfl
theorem laidOut : laidOutB Tryz.prog = true := by kernel_rfl

/-- What a law's walk ends in. -/
def Yes (w : World) (e : Ending) (w' : World) : Prop := e = .returned (.bool true) ∧ Below w.heap.size w w'

theorem trodAll_below {H : Type} {enc : TypeId × Value → H} {P : Program} (hl : laidOutB P = true) {W W' : World} (hb : Below W.heap.size W W') :
    ∀ (ts : List TypeId) (vs : List Value) (ds : List (DataW H)) (ps : List MemPlace),
      ts.all (fun t => P.readableRec t && decide (t < P.types.size)) = true → DataW.TrodAll enc P W 0 (fun _ => true) true ts vs ds ps →
      DataW.TrodAll enc P W' 0 (fun b => decide (b < W.heap.size)) true ts vs ds ps
  | [], [], [], _, _, h => h
  | [], [], _ :: _, _, _, h => h.elim
  | [], _ :: _, _, _, _, h => h.elim
  | _ :: _, [], _, _, _, h => h.elim
  | _ :: _, _ :: _, [], _, _, h => h.elim
  | t :: ts, v :: vs, d :: ds, ps, ht, h => by
    obtain ⟨p, q, hp, hq, e⟩ := h
    simp only [List.all_cons, Bool.and_eq_true, decide_eq_true_eq] at ht
    refine ⟨p, q, Below.trod hl ht.1.1 ht.1.2 hp hb ?_, trodAll_below hl hb ts vs ds q ht.2 hq, e⟩
    obtain ⟨m, hm⟩ := hp
    exact DataW.trod_lt m _ _ _ hm

theorem law_post {H : Type} {enc : TypeId × Value → H} {f : Func} {s : ChangeSpec} {W W' : World} {args : Array Value} {ds gs : List (DataW H)} {before : List MemPlace}
    (hv : s.vars = []) (hr : f.resultTypes = #[4]) (ht : f.params.toList.all (fun t => Tryz.prog.readableRec t && decide (t < Tryz.prog.types.size)) = true)
    (hs : s.fn H (ds ++ gs) = { results := [.lit (.bool true)], args := ds })
    (hW : DataW.Whole enc Tryz.prog f.params.toList s.vars false W args.toList ds gs before) (hb : Below W.heap.size W W') :
    s.post enc Tryz.prog f false true false false W args (.bool true) W' := by
  have hW' := hW
  obtain ⟨p, q, hA, hV, rfl, hfz, hnd⟩ := hW
  rw [hv] at hV
  obtain ⟨rfl, rfl⟩ := trodVars_none hV
  refine ⟨ds, [], _, [], p, [], hW', ?_, ?_, ?_, hb.frame _, fun h => by cases h⟩
  · rw [hs, hr]
    exact trodAll_mk1 (shut_bool Tryz.underlying4 _)
  · rw [hs]
    exact trodAll_below laidOut hb _ _ _ _ ht hA
  · rw [hs, hv]
    rfl
end Go.Proofs.YtobdmlejabjmiaaGreatDoor


/- The arguments of a law, opened: lists of bytes and of numbers; and how large they are. -/
namespace Go.Proofs.YtobdmlejabjmiaaGreatDoor
open Go.ChangeShapes Go.WideShapes Go.ChangeAt Go.RowKit

/-- Numbers of one kind. -/
def ncells (k : IntKind) (zs : List Int) : List Value := zs.map (Value.int k)
theorem ncells_length (k : IntKind) (zs : List Int) : (ncells k zs).length = zs.length := by simp [ncells]

theorem u64_of_wf {x : Int} (h : (Lit.int .u64 x).wf = true) : 0 ≤ x ∧ x ≤ 18446744073709551615 := by
  simp [Lit.wf, IntKind.min, IntKind.max, IntKind.signed, IntKind.bits] at h
  exact ⟨by omega, by omega⟩
/-- What is known of a slice of numbers that came in: its reading, and its size in the datum. -/
structure Came {H : Type} (W : World) (k : IntKind) (A : Option Addr) (c : Nat) (zs : List Int) (d : DataW H) : Prop where
  reads : RV W A (ncells k zs)
  wf : ∀ z ∈ zs, (Lit.int k z).wf = true
  cap : zs.length ≤ c
  most : c ≤ 9223372036854775807
  none_ : A = none → c = 0
  datum : (d = .nil ∧ zs = []) ∨ ∃ elems spare, d = .slice elems spare ∧ elems.length = zs.length

theorem came_trod {H : Type} {enc : TypeId × Value → H} {W : World} {t e : TypeId} {k : IntKind} {fuel : Nat} {cs : List Value} {x : DataW H × List MemPlace}
    (ht : Tryz.prog.underlying t = some (.slice e)) (he : Tryz.prog.underlying e = some (.int k)) (hc : Tryz.prog.cellsOf e = 1)
    (hf : DataW.trod enc Tryz.prog W 0 (fun _ => true) true fuel t cs = some x) : ∃ A c zs, cs = [.slice A zs.length c] ∧ Came W k A c zs x.1 := by
  rcases open_ints ht he hc hf with ⟨hcs, hx⟩ | ⟨a, len', cap', zs, hcs, _, hl, hm, hz, hx, hcell, hwz⟩
  · subst hcs
    exact ⟨none, 0, [], rfl, ⟨by simpa [ncells] using RV.nil, by simp, by simp, by omega, fun _ => rfl, .inl ⟨by rw [hx], rfl⟩⟩⟩
  · subst hcs
    have hz' : zs.length = cap' := by simpa using hz
    have hlen : (zs.take len').length = len' := by simp; omega
    refine ⟨some a, cap', zs.take len', by rw [hlen], ⟨⟨fun hn => ?_⟩, fun z hz => hwz z (List.mem_of_mem_take hz), by omega, by unfold maxLen at hm; omega, by simp, .inr ⟨_, _, by rw [hx], by simp [lits]⟩⟩⟩
    rw [ncells_length, hlen] at hn
    have h0 := hcell 0 (by omega)
    obtain ⟨b, off, spot⟩ := a
    have hspot : spot = none := by simpa [Addr.add] using World.cell?_spot h0
    subst hspot
    have hadd : ∀ j, (⟨b, off, none⟩ : Addr).add j = ⟨b, off + j, none⟩ := by intro j; unfold Addr.add; split <;> simp_all
    refine ⟨b, off, rfl, World.block_lt_of_cell? W ⟨b, off, none⟩ (u := .int k (zs.getD 0 0)) (by simpa [Addr.add] using h0), fun j x hx => ?_⟩
    have hj : j < len' := by
      have := (List.getElem?_eq_some_iff.1 hx).1
      simp [ncells] at this; omega
    have hc := hcell j (by omega)
    rw [hadd] at hc
    rw [hc]
    simp only [ncells, List.getElem?_map, List.getElem?_take, if_pos hj] at hx
    rw [List.getElem?_eq_getElem (by omega)] at hx
    simp only [Option.map_some, Option.some.injEq] at hx
    rw [← hx, List.getD_eq_getElem?_getD, List.getElem?_eq_getElem (by omega)]
    rfl

set_option maxRecDepth 20000 in
theorem came {H : Type} {enc : TypeId × Value → H} {W : World} {base : Nat} {t e : TypeId} {k : IntKind} {v : Value} {d : DataW H} {p : List MemPlace}
    (ht : Tryz.prog.underlying t = some (.slice e)) (he : Tryz.prog.underlying e = some (.int k)) (hc : Tryz.prog.cellsOf e = 1)
    (hv : Value.okWide Tryz.prog W .any base t v) (h : DataW.Trod enc Tryz.prog W 0 (fun _ => true) true t v d p) :
    ∃ A c zs, v = .slice A zs.length c ∧ Came W k A c zs d := by
  obtain ⟨A, len, cap, rfl⟩ := okWide_slice ht hv
  obtain ⟨fuel, hf⟩ := h
  obtain ⟨A', c', zs, hcs, hcm⟩ := came_trod ht he hc hf
  simp [Value.cells] at hcs
  obtain ⟨rfl, rfl, rfl⟩ := hcs
  exact ⟨_, _, zs, rfl, hcm⟩

/-- Bytes out of numbers. -/
theorem Came.bytes {H : Type} {W : World} {A : Option Addr} {c : Nat} {zs : List Int} {d : DataW H} (h : Came W .u8 A c zs d) :
    ∃ l : List UInt8, l.length = zs.length ∧ RB W A l := by
  have hwf : ∀ z ∈ zs, 0 ≤ z ∧ z ≤ 255 := by
    intro z hz
    have := h.wf z hz
    simpa [Lit.wf, IntKind.min, IntKind.max, IntKind.signed, IntKind.bits] using this
  refine ⟨zs.map fun z => UInt8.ofNat z.toNat, by simp, RB.of_rv ?_⟩
  have e : bcells (zs.map fun z => UInt8.ofNat z.toNat) = ncells .u8 zs := by
    simp only [bcells, ncells, List.map_map]
    refine List.map_congr_left fun z hz => ?_
    have := hwf z hz
    simp only [Function.comp, UInt8.toNat_ofNat']
    congr 1
    omega
  rw [e]
  exact h.reads

/-- A part's bulk is no more than the whole's. -/
theorem bulk_mem {H : Type} {d : DataW H} {l : List (DataW H)} (h : d ∈ l) : Rows.uptoBulk d ≤ Rows.uptoBulkAll l := by
  induction l with
  | nil => simp at h
  | cons x r ih =>
    rw [Rows.uptoBulkAll]
    rcases List.mem_cons.1 h with rfl | h
    · exact Nat.le_add_right _ _
    · exact Nat.le_trans (ih h) (Nat.le_add_left _ _)
theorem bulk_pos {H : Type} (d : DataW H) : 0 < Rows.uptoBulk d := by
  cases d with
  | lit l => cases l <;> simp [Rows.uptoBulk]
  | _ => simp [Rows.uptoBulk]
theorem bulk_length {H : Type} (l : List (DataW H)) : l.length ≤ Rows.uptoBulkAll l := by
  induction l with
  | nil => simp
  | cons x r ih => have := bulk_pos x; rw [Rows.uptoBulkAll, List.length_cons]; omega
theorem bulk_slice {H : Type} (elems spare : List (DataW H)) : elems.length ≤ Rows.uptoBulk (.slice elems spare) := by
  have := bulk_length elems
  rw [Rows.uptoBulk]; omega
theorem small_le {H : Type} {l : List (DataW H)} (h : Rows.uptoSmall H l = true) : Rows.uptoBulkAll l ≤ 1048576 := of_decide_eq_true h
theorem Came.small {H : Type} {W : World} {k : IntKind} {A : Option Addr} {c : Nat} {zs : List Int} {d : DataW H} (h : Came W k A c zs d) {ds : List (DataW H)} (hs : Rows.uptoSmall H ds = true) (hd : d ∈ ds) : zs.length ≤ 1048576 := by
  rcases h.datum with ⟨_, rfl⟩ | ⟨elems, spare, rfl, he⟩
  · simp
  · have h1 := bulk_slice elems spare
    have h2 := bulk_mem hd
    have h3 := small_le hs
    omega
end Go.Proofs.YtobdmlejabjmiaaGreatDoor


/- A law's argument that is a slice of structs: each struct's fields are numbers, bools, strings and lists of bytes. -/
namespace Go.Proofs.YtobdmlejabjmiaaGreatDoor
set_option maxRecDepth 20000
open Go.ChangeShapes Go.WideShapes Go.ChangeAt Go.RowKit Go.Deep

/-- A row of structs of k cells each, told by their cells. -/
structure RS (w : World) (X : Option Addr) (k : Nat) (L : List (List Value)) : Prop where
  at_ : 0 < L.length → ∃ b off, X = some ⟨b, off, none⟩ ∧ b < w.heap.size ∧ ∀ i cs, L[i]? = some cs → ∀ j v, cs[j]? = some v → w.cell? ⟨b, off + i * k + j, none⟩ = some v
theorem RS.below {w w' : World} {X : Option Addr} {k : Nat} {L : List (List Value)} (h : RS w X k L) (hb : Below w.heap.size w w') : RS w' X k L :=
  ⟨fun hn => by
    obtain ⟨b, off, e, hlt, hc⟩ := h.at_ hn
    exact ⟨b, off, e, Nat.lt_of_lt_of_le hlt hb.size, fun i cs hi j v hj => (hb.cell (p := ⟨b, _, none⟩) hlt).trans (hc i cs hi j v hj)⟩⟩
theorem RS.row {w : World} {X : Option Addr} {k : Nat} {L : List (List Value)} (h : RS w X k L) {i : Nat} (hi : i < L.length) : ∃ b off, X = some ⟨b, off, none⟩ ∧ b < w.heap.size ∧ ∀ j v, L[i][j]? = some v → w.cell? ⟨b, off + i * k + j, none⟩ = some v := by
  obtain ⟨b, off, e, hlt, hc⟩ := h.at_ (by omega)
  exact ⟨b, off, e, hlt, fun j v hj => hc i _ (List.getElem?_eq_getElem hi) j v hj⟩

theorem RS.get {w : World} {b off k : Nat} {L : List (List Value)} (h : RS w (some ⟨b, off, none⟩) k L) {i : Nat} {cs : List Value} (hi : L[i]? = some cs) (j : Nat) {v : Value} (hj : cs[j]? = some v) : w.cell? ⟨b, off + i * k + j, none⟩ = some v := by
  obtain ⟨b', off', e, _, hc⟩ := h.at_ (by have := (List.getElem?_eq_some_iff.1 hi).1; omega)
  injection e with e
  injection e with e1 e2
  subst e1 e2
  exact hc i cs hi j v hj

/-- The kinds of fields; a field's value. -/
inductive FK where
  | int (k : IntKind) | bool | str | bytes
inductive Fv where
  | int (k : IntKind) (n : Int) | bool (b : Bool) | str (l : List UInt8) | bytes (A : Option Addr) (c : Nat) (l : List UInt8)
instance : Inhabited Fv := ⟨.bool false⟩
def Fv.val : Fv → Value
  | .int k n => .int k n
  | .bool b => .bool b
  | .str l => .string ⟨l.toArray⟩
  | .bytes A c l => .slice A l.length c
def Fv.ok (w : World) : FK → Fv → Prop
  | .int k, .int k' n => k' = k ∧ (Lit.int k n).wf = true
  | .bool, .bool _ => True
  | .str, .str l => l.length ≤ 140737488351232
  | .bytes, .bytes A c l => RB w A l ∧ l.length ≤ c ∧ c ≤ 9223372036854775807 ∧ l.length ≤ 140737488351232
  | _, _ => False
def rowOk (w : World) : List FK → List Fv → Prop
  | [], [] => True
  | k :: ks, v :: vs => v.ok w k ∧ rowOk w ks vs
  | _, _ => False
theorem Fv.ok.below {w w' : World} {k : FK} {v : Fv} (h : v.ok w k) (hb : Below w.heap.size w w') : v.ok w' k := by
  cases k <;> cases v <;> first | exact h | exact ⟨h.1.below hb, h.2⟩
theorem rowOk.below {w w' : World} (hb : Below w.heap.size w w') : ∀ {ks : List FK} {vs : List Fv}, rowOk w ks vs → rowOk w' ks vs
  | [], [], h => h
  | _ :: _, _ :: _, h => ⟨h.1.below hb, rowOk.below hb h.2⟩
  | [], _ :: _, h => h.elim
  | _ :: _, [], h => h.elim
def FK.is (P : Program) (t : TypeId) : FK → Bool
  | .int k => match P.underlying t with | some (.int k') => decide (k' = k) | _ => false
  | .bool => match P.underlying t with | some .bool => true | _ => false
  | .str => match P.underlying t with | some .string => true | _ => false
  | .bytes => match P.underlying t with
    | some (.slice e) => (match P.underlying e with | some (.int .u8) => true | _ => false) && P.cellsOf e == 1 && P.bytesOf e == 1
    | _ => false

section
variable {H : Type} {enc : TypeId × Value → H} {W : World}

theorem weights_each_get {P : Program} : ∀ {ts : List TypeId} {ds : List (DataW H)}, (DataW.weightsEach P ts ds).all (· ≤ reachBytes) = true → ∀ {j : Nat} {t : TypeId} {d : DataW H}, ts[j]? = some t → ds[j]? = some d → (d.weights P t).all (· ≤ reachBytes) = true := by
  intro ts ds h j t d ht hd
  rw [List.all_eq_true] at h ⊢
  exact fun n hn => h n (DataW.weights_mem_each ht hd n hn)

theorem weights_struct_field {P : Program} {t : TypeId} {fs : Array Field} {ys : List (DataW H)} (hu : P.underlying t = some (.struct fs)) (h : (DataW.weights P t (.agg ys)).all (· ≤ reachBytes) = true) {j : Nat} {f : Field} {d : DataW H} (hf : fs[j]? = some f) (hd : ys[j]? = some d) :
    (d.weights P f.type).all (· ≤ reachBytes) = true := by
  rw [DataW.weights] at h
  simp only [hu] at h
  exact weights_each_get h (by simpa using ⟨f, by simpa using hf, rfl⟩) hd

/-- A field, read. -/
theorem field_of_trod {t : TypeId} {k : FK} {v : Value} {y : DataW H × List MemPlace} {fuel : Nat} (hk : k.is Tryz.prog t = true) (h : DataW.trod enc Tryz.prog W 0 (fun _ => true) true fuel t [v] = some y) (hw : (y.1.weights Tryz.prog t).all (· ≤ reachBytes) = true) :
    ∃ f : Fv, v = f.val ∧ f.ok W k := by
  cases k with
  | int k =>
    simp only [FK.is] at hk
    split at hk
    · rename_i k' hu
      have := of_decide_eq_true hk
      subst this
      obtain ⟨n, hc, _, hwf⟩ := DataW.trod_int hu h
      simp only [List.cons.injEq, and_true] at hc
      exact ⟨.int _ n, hc, rfl, hwf⟩
    · cases hk
  | bool =>
    simp only [FK.is] at hk
    split at hk
    · rename_i hu
      obtain ⟨b, hc, _⟩ := DataW.trod_bool hu h
      simp only [List.cons.injEq, and_true] at hc
      exact ⟨.bool b, hc, trivial⟩
    · cases hk
  | str =>
    simp only [FK.is] at hk
    split at hk
    · rename_i hu
      obtain ⟨s, hc, hy, _⟩ := DataW.trod_string hu h
      simp only [List.cons.injEq, and_true] at hc
      refine ⟨.str s.data.toList, by simpa [Fv.val] using hc, ?_⟩
      rw [hy] at hw
      simp only [DataW.weights, List.all_cons, List.all_nil, Bool.and_true, decide_eq_true_eq] at hw
      show s.data.toList.length ≤ _
      unfold reachBytes at hw
      omega
    · cases hk
  | bytes =>
    simp only [FK.is] at hk
    split at hk
    · rename_i e hu
      simp only [Bool.and_eq_true, beq_iff_eq] at hk
      obtain ⟨⟨he, hc1⟩, hb1⟩ := hk
      split at he
      · rename_i hue
        obtain ⟨A, c, zs, hcs, hcm⟩ := came_trod hu hue hc1 h
        simp only [List.cons.injEq, and_true] at hcs
        obtain ⟨l, hl, hr⟩ := hcm.bytes
        refine ⟨.bytes A c l, by rw [hcs, Fv.val, hl], hr, by rw [hl]; exact hcm.cap, hcm.most, ?_⟩
        rcases hcm.datum with ⟨_, hz⟩ | ⟨elems, spare, hy, hel⟩
        · rw [hl, hz]; simp
        · rw [hy] at hw
          simp only [DataW.weights, hu, List.all_cons, Bool.and_eq_true, decide_eq_true_eq, hb1] at hw
          have := hw.1
          unfold reachBytes at this
          omega
      · cases he
    · cases hk

def kindsOk (P : Program) : List FK → List Field → Bool
  | [], [] => true
  | k :: ks, f :: fs => k.is P f.type && kindsOk P ks fs
  | _, _ => false

end
end Go.Proofs.YtobdmlejabjmiaaGreatDoor

