/- Contracts of package script's reader: need, next. -/
import Derived.Test.YtcinohmhhglpjaaDoorScrE
import Derived.Test.YtcinohmhhglpjaaDoorFr
import Derived.Test.YtcinohmhhglpjaaDoorScrRr
import Derived.WalkLawsBesides
namespace Go.Proofs.YtcinohmhhglpjaaDoor
open Go.RowKit

abbrev Tr : TypeId := 118
def faultV : Value := .iface 114 (.agg #[])
def svals (L : List (List UInt8)) : List Value := L.map fun s => .string ⟨s.toArray⟩
/-- A reader in block b: these words are left. -/
def RdAt (w : World) (b N : Nat) (L : List (List UInt8)) : Prop := ∃ A c, Blk w b Tr #[.slice A L.length c] ∧ L.length ≤ c ∧ c ≤ 9223372036854775807 ∧ RV w A (svals L) ∧ (∀ s ∈ L, s.length ≤ 140737488351232) ∧ ∀ g, A.map (·.block) = some g → g < N
theorem RdAt.below {w w' : World} {b N : Nat} {L : List (List UInt8)} (h : RdAt w b N L) (hb : Below w.heap.size w w') : RdAt w' b N L := by
  obtain ⟨A, c, h1, h2, h3, h4, h5⟩ := h
  exact ⟨A, c, h1.kept hb, h2, h3, h4.below hb, h5⟩
theorem RdAt.lt {w : World} {b N : Nat} {L : List (List UInt8)} (h : RdAt w b N L) : b < w.heap.size := by
  obtain ⟨A, c, h1, _⟩ := h
  exact h1.lt
/-- A block of another kind, laid behind the words, is written. -/
theorem RdAt.setRow {w : World} {b N g : Nat} {L : List (List UInt8)} (h : RdAt w b N L) (hg : g ≠ b) (hN : N ≤ g) (ds : Array Value) : RdAt (w.setRow g ds) b N L := by
  obtain ⟨A, c, h1, h2, h3, h4, h5, h6⟩ := h
  refine ⟨A, c, h1.setRow_other ds hg.symm, h2, h3, ⟨fun hn => ?_⟩, h5, h6⟩
  obtain ⟨b', off, rfl, hlt, hc⟩ := h4.at_ hn
  have := h6 b' rfl
  exact ⟨b', off, rfl, by simpa using hlt, fun j x hx => (cell_setRow_other w g ds _ (by simp only; omega)).trans (hc j x hx)⟩
/-- What a reader's call ends in: the value, and what is left; or it gives up. -/
def Gives {α : Type} (o : Option (α × List (List UInt8))) (val : α → Value) (b N : Nat) (w : World) (e : Ending) (w' : World) : Prop :=
  (∃ x r, o = some (x, r) ∧ e = .returned (val x) ∧ RdAt w' b N r ∧ Mods (· = b) w w') ∨ (o = none ∧ e = .panicked [{ v := faultV, recovered := false }] ∧ Mods (· = b) w w')

set_option maxRecDepth 20000 in
theorem needT (v : Value) (w : World) : Calls Tryd.prog 41 #[v, .bool true] w fun e w' => e = .returned (.tuple #[]) ∧ w' = w := by
  have hnot : ∀ (x : Bool) (w : World), (Op.unary .not (.bool x)).run Tryd.prog w = .ok (.bool (!x)) w := fun _ _ => rfl
  go_enter Tryd.func41, Tryd.ntmps41
  go_wp2
  go_end0
  exact ⟨rfl, rfl⟩
set_option maxRecDepth 20000 in
theorem needF (v : Value) (w : World) : Calls Tryd.prog 41 #[v, .bool false] w fun e w' => e = .panicked [{ v := faultV, recovered := false }] ∧ w' = w := by
  have hnot : ∀ (x : Bool) (w : World), (Op.unary .not (.bool x)).run Tryd.prog w = .ok (.bool (!x)) w := fun _ _ => rfl
  go_enter Tryd.func41, Tryd.ntmps41
  go_wp2
  exact ⟨rfl, rfl, rfl⟩

theorem svals_len (L : List (List UInt8)) : (svals L).length = L.length := by simp [svals]
/-- The words behind the first one. -/
theorem RdAt.step {w : World} {b N g off c : Nat} {s : List UInt8} {t : List (List UInt8)} (hc : (s :: t).length ≤ c) (hm : c ≤ 9223372036854775807) (hr : RV w (some ⟨g, off, none⟩) (svals (s :: t))) (hl : ∀ x ∈ s :: t, x.length ≤ 140737488351232)
    (hN : g < N) (hb : Blk w b Tr #[.slice (some ⟨g, off, none⟩) (s :: t).length c]) (a : Addr) (ha : a = if 1 = c then ⟨g, off, none⟩ else ⟨g, off + 1, none⟩) : RdAt (w.setCell ⟨b, 0, none⟩ (.slice (some a) t.length (c - 1))) b N t := by
  have hg : g ≠ b := by
    rintro rfl
    obtain ⟨g', off', e, _, h0⟩ := hr.at_ (by simp [svals])
    injection e with e
    injection e with e1 e2
    subst e1 e2
    have h1 := h0 0 _ rfl
    have hb' : w.heap[g]? = _ := hb
    simp only [World.cell?, hb'] at h1
    cases off with
    | zero => simp at h1
    | succ n => simp at h1
  refine ⟨some a, c - 1, hb.setCell 0 _, by simp at hc; omega, by omega, ?_, fun x hx => hl x (List.mem_cons_of_mem _ hx), fun k hk => by rw [ha] at hk; split at hk <;> (injection hk with hk; simp only at hk; omega)⟩
  refine ⟨fun hn => ?_⟩
  obtain ⟨g', off', e, hlt, h0⟩ := hr.at_ (by simp [svals])
  injection e with e
  injection e with e1 e2
  subst e1 e2
  have hc1 : 1 ≠ c := by
    rintro rfl
    rw [svals_len] at hn
    rw [List.length_cons] at hc
    omega
  rw [if_neg hc1] at ha
  refine ⟨g, off + 1, by rw [ha], by simpa [World.setCell] using hlt, fun j x hx => ?_⟩
  have h1 := h0 (j + 1) x (by simpa [svals] using hx)
  rw [show off + 1 + j = off + (j + 1) by omega]
  exact (World.cell?_of_block (w := w) (Below.heap_setCell w _ _ g hg)).trans h1

set_option maxRecDepth 20000 in
set_option maxHeartbeats 2000000 in
theorem nextR (b N : Nat) (L : List (List UInt8)) (w : World) (h : RdAt w b N L) :
    Calls Tryd.prog 40 #[.pointer (some ⟨b, 0, none⟩)] w (Gives (rd some L) (fun s => .string ⟨s.toArray⟩) b N w) := by
  obtain ⟨A, c, hb, hlc, hm, hr, hl, hN⟩ := h
  cases L with
  | nil =>
    have c0 := hb.cell 0 rfl
    go_enter Tryd.func40, Tryd.ntmps40
    go_wp2_with (go_at_call 41; refine (needF _ _).mono ?_)
    rintro e w' ⟨rfl, rfl⟩
    go_wp2_with fail
    exact ⟨rfl, .inr ⟨rfl, rfl, .refl _ _⟩⟩
  | cons s t =>
    obtain ⟨g, off, rfl, hgl, h0⟩ := hr.at_ (by simp [svals])
    have c0 := hb.cell 0 rfl
    have f0 := hb.free 0
    have g0 := h0 0 _ rfl
    have HST := Lib.hid (fun a ha => RdAt.step hlc hm hr hl (hN g rfl) hb a ha)
    have HRD : Hid (rd some (s :: t) = some (s, t)) := Lib.hid rfl
    simp only [List.length_cons, Nat.add_zero] at c0 g0 hlc
    have hlen : t.length + 1 ≤ 9223372036854775807 := by omega
    clear hb h0 hr hl hN
    go_enter Tryd.func40, Tryd.ntmps40
    go_wp2_with (go_at_call 41; refine (needT _ _).mono ?_)
    rintro e w' ⟨rfl, rfl⟩
    by_cases hc1 : 1 = c
    · subst hc1
      have hS := HST.out _ (if_pos rfl).symm
      have HS := Lib.hid hS
      have ht0 : t.length = 0 := by omega
      clear hS HST
      go_wp2_with fail
      go_ret
      exact .inl ⟨s, t, HRD.out, rfl, by have := HS.out; rw [ht0] at this; exact this, (Mods.refl (· = b) _).setCell _ (.inl rfl) _⟩
    · have hS := HST.out _ (if_neg hc1).symm
      have HS := Lib.hid hS
      clear hS HST
      go_wp2_with fail
      go_ret
      exact .inl ⟨s, t, HRD.out, rfl, HS.out, (Mods.refl (· = b) _).setCell _ (.inl rfl) _⟩
end Go.Proofs.YtcinohmhhglpjaaDoor
