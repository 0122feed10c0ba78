/- What a call may change: 'Mods S w w'': of what was there in w the blocks of S alone; and how what is known of memory stands across it. -/
import Derived.Test.YtjgonfnpfbifjaaGreatDoorVals
namespace Go.Proofs.YtjgonfnpfbifjaaGreatDoor
open Go.RowKit

/-- Of what was there, the blocks of S alone are changed. -/
structure Mods (S : Nat → Prop) (w w' : World) : Prop where
  os : w'.os = w.os
  tape : w'.tape = w.tape
  output : w'.output = w.output
  size : w.heap.size ≤ w'.heap.size
  block : ∀ k, k < w.heap.size → ¬ S k → w'.heap[k]? = w.heap[k]?

section
variable {S T : Nat → Prop} {w a b w' : World}
theorem Mods.refl (S : Nat → Prop) (w : World) : Mods S w w := ⟨rfl, rfl, rfl, Nat.le_refl _, fun _ _ _ => rfl⟩
theorem Mods.trans (h : Mods S w a) (k : Mods T a b) (hs : ∀ i, T i → S i ∨ w.heap.size ≤ i) : Mods S w b :=
  ⟨k.os.trans h.os, k.tape.trans h.tape, k.output.trans h.output, Nat.le_trans h.size k.size, fun i hi hn => (k.block i (Nat.lt_of_lt_of_le hi h.size) fun ht => by
    rcases hs i ht with h1 | h1
    · exact hn h1
    · omega).trans (h.block i hi hn)⟩
theorem Mods.then (h : Mods S w a) (k : Mods S a b) : Mods S w b := h.trans k fun _ h => .inl h
theorem Mods.mono (h : Mods S w a) (hs : ∀ i, i < w.heap.size → S i → T i) : Mods T w a := ⟨h.os, h.tape, h.output, h.size, fun i hi hn => h.block i hi fun hs' => hn (hs i hi hs')⟩
theorem Mods.of_below (h : Below w.heap.size w a) : Mods S w a := ⟨h.os, h.tape, h.output, h.size, fun i hi _ => h.block i hi⟩
theorem Mods.of_grown {row : Option Nat} (h : w.grownBy a row) (hs : ∀ k, row = some k → S k) : Mods S w a := ⟨h.os, h.tape, h.output, h.size, fun i hi hn => h.block i hi fun e => hn (hs i e.symm)⟩
theorem Mods.below (h : Mods S w a) (k : Below a.heap.size a b) : Mods S w b := h.then (.of_below k)
theorem Mods.alloc (h : Mods S w a) (o : Obj) : Mods S w (a.alloc o) := h.below ((Below.refl _ _).alloc (Nat.le_refl _) o)
theorem Mods.drewN (h : Mods S w a) (n : Nat) : Mods S w (a.drewN n) := ⟨h.os, h.tape, h.output, h.size, h.block⟩
theorem Mods.setCell (h : Mods S w a) (p : Addr) (hp : S p.block ∨ w.heap.size ≤ p.block) (v : Value) : Mods S w (a.setCell p v) :=
  h.trans (T := fun i => i = p.block) ⟨rfl, rfl, rfl, by simp [World.setCell], fun i _ hn => Below.heap_setCell a p v i hn⟩ fun i hi => by subst hi; exact hp
theorem Mods.setRow (h : Mods S w a) (g : Nat) (hp : S g ∨ w.heap.size ≤ g) (cs : Array Value) : Mods S w (a.setRow g cs) :=
  h.trans (T := fun i => i = g) ⟨rfl, rfl, rfl, by simp, fun i _ hn => Go.setRow_other a g i cs hn⟩ fun i hi => by subst hi; exact hp
theorem Mods.setObj (h : Mods S w a) (g : Nat) (hp : S g ∨ w.heap.size ≤ g) (o : Obj) : Mods S w { a with heap := a.heap.setIfInBounds g o } :=
  h.trans (T := fun i => i = g) ⟨rfl, rfl, rfl, by simp, fun i _ hn => by simp [Array.getElem?_setIfInBounds, Ne.symm hn]⟩ fun i hi => by subst hi; exact hp
/-- What lies below B stays below B. -/
theorem Mods.old {B : Nat} {w0 : World} (h0 : Below B w0 w) (h : Mods S w a) (hB : B ≤ w.heap.size) (hs : ∀ i, i < w.heap.size → S i → B ≤ i) : Below B w0 a :=
  ⟨h.os.trans h0.os, h.tape.trans h0.tape, h.output.trans h0.output, Nat.le_trans h0.size h.size, fun i hi => (h.block i (by omega) fun hs' => by
    have := hs i (by omega) hs'; omega).trans (h0.block i hi)⟩
theorem Mods.cell (h : Mods S w a) {p : Addr} (hp : p.block < w.heap.size) (hn : ¬ S p.block) : a.cell? p = w.cell? p := World.cell?_of_block (w := w) (h.block _ hp hn)

theorem Blk.mods {g : Nat} {Ty : TypeId} {cs : Array Value} (h : Blk w g Ty cs) (m : Mods S w a) (hn : ¬ S g) : Blk a g Ty cs := by
  unfold Blk; rw [m.block g h.lt hn]; exact h
theorem RB.mods {A : Option Addr} {l : List UInt8} (h : RB w A l) (m : Mods S w a) (hn : 0 < l.length → ∀ k, A.map (·.block) = some k → ¬ S k) : RB a A l :=
  h.keep m.size fun b off h0 e hlt j => m.cell (p := ⟨b, _, none⟩) hlt (hn h0 b (by rw [e]; rfl))
theorem OB.mods {base c : Nat} {A : Option Addr} {l : List UInt8} (h : OB w base A c l) (m : Mods S w a) (hn : ∀ k, A.map (·.block) = some k → ¬ S k) : OB a base A c l := by
  refine ⟨h.1, ?_⟩
  rcases h.2 with h2 | ⟨g, cap, cur, hv, hg, hh, r⟩
  · exact .inl h2
  · injection hv with hv1 hv2 hv3
    subst hv1 hv3
    exact .inr ⟨g, _, cur, rfl, hg, by rw [m.block g (lt_of_block hh) (hn g rfl)]; exact hh, r⟩
end

/-- What is known of a row of bytes by its block's kind: another kind of block is another block. -/
theorem RB.blk_ne {w : World} {A : Option Addr} {l : List UInt8} (h : RB w A l) (hl : 0 < l.length) {g : Nat} {o : Obj} (hg : w.heap[g]? = some o) (ho : ∀ cs fr, o ≠ .cells cs 5 fr) (hu : ∀ cs T fr, o = .cells cs T fr → ∀ (j : Nat) (n : Int), cs[j]? ≠ some (Value.int .u8 n)) : A.map (·.block) ≠ some g := by
  intro e
  obtain ⟨b, off, rfl, hb, hc⟩ := h.at_ hl
  have e' : b = g := by simpa using e
  subst e'
  have h0 := hc 0 _ (List.getElem?_eq_getElem hl)
  unfold World.cell? at h0
  rw [hg] at h0
  cases o with
  | cells cs T fr => simp at h0; exact hu cs T fr rfl _ _ h0
  | _ => simp at h0

theorem OB.blk_lt {w : World} {base : Nat} {A : Option Addr} {c : Nat} {l : List UInt8} (h : OB w base A c l) : ∀ k, A.map (·.block) = some k → base ≤ k ∧ k < w.heap.size := fun k hk => h.own_lt k (by rw [own_blk]; exact hk)
theorem OB.store {w : World} {base : Nat} {A : Option Addr} {c : Nat} {l : List UInt8} (h : OB w base A c l) {k : Nat} (hk : k < l.length) : ∃ g, A = some ⟨g, 0, none⟩ ∧ base ≤ g ∧ g < w.heap.size ∧
    w.cell? ⟨g, k, none⟩ = some (.int .u8 (l[k].toNat : Int)) ∧ w.frozen? ⟨g, k, none⟩ = false ∧
    ∀ (y : UInt8) (V : Int), V = (y.toNat : Int) → OB (w.setCell ⟨g, k, none⟩ (.int .u8 V)) base A c (l.set k y) ∧ w.grownBy (w.setCell ⟨g, k, none⟩ (.int .u8 V)) (some g) := by
  rcases h.form with ⟨_, _, rfl⟩ | ⟨g, rfl, hb, hg, _, _⟩
  · simp at hk
  · refine ⟨g, rfl, hb, hg, ?_, World.ownsRow.frozenAt h k, fun y V hV => ?_⟩
    · have := World.ownsRow.cellAt h k (by omega)
      rw [this, bcells_get, List.getElem?_eq_getElem hk]
      rfl
    · subst hV
      have := World.ownsRow.stored h k (.int .u8 (y.toNat : Int))
      refine ⟨?_, this.2⟩
      have e : (bcells l).set k (.int .u8 (y.toNat : Int)) = bcells (l.set k y) := by simp [bcells, List.map_set]
      rw [e] at this
      unfold OB
      rw [List.length_set]
      exact this.1
theorem RB.take {w : World} {A : Option Addr} {l : List UInt8} (h : RB w A l) (n : Nat) : RB w A (l.take n) := by
  refine ⟨fun hn => ?_⟩
  obtain ⟨b, off, e, hb, hc⟩ := h.at_ (by simp at hn; omega)
  refine ⟨b, off, e, hb, fun j x hx => hc j x ?_⟩
  rw [List.getElem?_take] at hx
  split at hx
  · exact hx
  · cases hx
theorem RB.blk_lt {w : World} {A : Option Addr} {l : List UInt8} (h : RB w A l) (hl : 0 < l.length) : ∀ k, A.map (·.block) = some k → k < w.heap.size := by
  intro k hk
  obtain ⟨b, off, rfl, hb, _⟩ := h.at_ hl
  have : b = k := by simpa using hk
  omega
theorem gb_below {w a : World} {r : Option Nat} (h : Below w.heap.size w a) : w.grownBy a r := ⟨h.os, h.tape, h.output, h.size, fun k hk _ => h.block k hk⟩
theorem gb_trans {w a b : World} {r : Option Nat} (h : w.grownBy a r) (k : a.grownBy b r) : w.grownBy b r := ⟨k.os.trans h.os, k.tape.trans h.tape, k.output.trans h.output, Nat.le_trans h.size k.size, fun i hi hne => (k.block i (Nat.lt_of_lt_of_le hi h.size) hne).trans (h.block i hi hne)⟩
end Go.Proofs.YtjgonfnpfbifjaaGreatDoor
