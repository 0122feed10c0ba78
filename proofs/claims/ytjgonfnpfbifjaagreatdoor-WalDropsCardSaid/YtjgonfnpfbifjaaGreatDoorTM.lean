/- What stays by its kind: what was there and is not of a bad kind. -/
import Derived.Test.YtjgonfnpfbifjaaGreatDoorMapW
namespace Go.Proofs.YtjgonfnpfbifjaaGreatDoor
open Go.RowKit

structure TM (bad : Obj → Prop) (w w' : World) : Prop where
  size : w.heap.size ≤ w'.heap.size
  block : ∀ (b : Nat) (o : Obj), w.heap[b]? = some o → ¬ bad o → w'.heap[b]? = some o
theorem TM.refl (bad : Obj → Prop) (w : World) : TM bad w w := ⟨Nat.le_refl _, fun _ _ h _ => h⟩
theorem TM.trans {bad : Obj → Prop} {w a b : World} (h : TM bad w a) (k : TM bad a b) : TM bad w b := ⟨Nat.le_trans h.size k.size, fun i o hi hb => k.block i o (h.block i o hi hb) hb⟩
theorem TM.below {bad : Obj → Prop} {w a : World} (h : Below w.heap.size w a) : TM bad w a := ⟨h.size, fun i o hi _ => by rw [h.block i (Array.getElem?_eq_some_iff.1 hi).1]; exact hi⟩
theorem TM.mods {bad : Obj → Prop} {S : Nat → Prop} {w a : World} (h : Mods S w a) (hs : ∀ (b : Nat) (o : Obj), w.heap[b]? = some o → S b → bad o) : TM bad w a :=
  ⟨h.size, fun i o hi hb => by rw [h.block i (Array.getElem?_eq_some_iff.1 hi).1 fun hS => hb (hs i o hi hS)]; exact hi⟩
/-- What a call keeps: what lies below n, and what is not of its kind. -/
structure Keep (bad : Obj → Prop) (n : Nat) (w w' : World) : Prop where
  below : Below n w w'
  tm : TM bad w w'
theorem Keep.of_below {bad : Obj → Prop} {n : Nat} {w w' : World} (h : Below w.heap.size w w') (hn : n ≤ w.heap.size) : Keep bad n w w' := ⟨h.mono hn, .below h⟩
theorem Keep.trans {bad : Obj → Prop} {n : Nat} {w a b : World} (h : Keep bad n w a) (k : Keep bad n a b) : Keep bad n w b := ⟨h.below.trans k.below, h.tm.trans k.tm⟩
theorem Keep.refl (bad : Obj → Prop) (n : Nat) (w : World) : Keep bad n w w := ⟨Below.refl _ _, TM.refl _ _⟩
theorem Blk.tm {bad : Obj → Prop} {w w' : World} {g : Nat} {T : TypeId} {cs : Array Value} (h : Blk w g T cs) (k : TM bad w w') (hb : ¬ bad (.cells cs T (0, 0))) : Blk w' g T cs := k.block g _ h hb
theorem MapAt.tm {K : Type} {kv : K → Value} {bad : Obj → Prop} {w w' : World} {m : Nat} {es : List (K × Value)} (h : MapAt kv w m es) (t : TM bad w w') (hb : ∀ a b, ¬ bad (.map a b)) : MapAt kv w' m es := by
  obtain ⟨es0, clock, hm, _⟩ := h.size
  exact h.of_block (by rw [hm]; exact t.block m _ hm (hb _ _))
theorem belowDrewN' {B : Nat} {w w' : World} (h : Below B w w') (n : Nat) : Below B w (w'.drewN n) := ⟨h.os, h.tape, h.output, h.size, h.block⟩
theorem tm_drewN {bad : Obj → Prop} {w a : World} (h : TM bad w a) (n : Nat) : TM bad w (a.drewN n) := ⟨h.size, h.block⟩
end Go.Proofs.YtjgonfnpfbifjaaGreatDoor
