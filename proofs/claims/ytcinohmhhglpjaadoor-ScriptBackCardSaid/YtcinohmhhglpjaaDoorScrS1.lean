/- strings.Split at a blank. -/
import Derived.Test.YtcinohmhhglpjaaDoorScrWa
import Derived.Defers
import Derived.Recover
import Derived.Laws.Pointers
namespace Go.Proofs.YtcinohmhhglpjaaDoor
open Go.RowKit

theorem split_parts (s : List UInt8) : Lib.splitB ⟨#[32]⟩ 0 (Lib.countB ⟨s.toArray⟩ ⟨#[32]⟩) ⟨s.toArray⟩ = (parts 32 s).map (fun l => ⟨l.toArray⟩) ∧ Lib.countB ⟨s.toArray⟩ ⟨#[32]⟩ + 1 = (parts 32 s).length := by
  have hc : Lib.countB ⟨s.toArray⟩ ⟨#[32]⟩ = Lib.count s [32] := rfl
  obtain ⟨h1, h2⟩ := splitK_parts 32 s.length s (Nat.le_refl _)
  refine ⟨?_, by rw [hc, h2, parts_count]⟩
  have h := Lib.splitB_data ⟨#[32]⟩ 0 (Lib.countB ⟨s.toArray⟩ ⟨#[32]⟩) ⟨s.toArray⟩
  have h' : (Lib.splitB ⟨#[32]⟩ 0 (Lib.countB ⟨s.toArray⟩ ⟨#[32]⟩) ⟨s.toArray⟩).map (·.data.toList) = parts 32 s := by rw [h, hc]; exact h1
  rw [← h', List.map_map]
  conv => lhs; rw [← List.map_id (Lib.splitB ⟨#[32]⟩ 0 (Lib.countB ⟨s.toArray⟩ ⟨#[32]⟩) ⟨s.toArray⟩)]
  rfl
theorem splitC (s : List UInt8) (B : Nat) (w : World) (hs : s.length < 4294967281) (hE : EnvR B w) :
    Calls Tryd.prog 63 #[.string ⟨s.toArray⟩, .string ⟨#[32]⟩] w fun e w' => e = .returned (.slice (some ⟨w.heap.size, 0, none⟩) (parts 32 s).length (parts 32 s).length) ∧ w' = w.alloc (.cells (svals (parts 32 s)).toArray 9) := by
  obtain ⟨m, hm⟩ := hE.max
  obtain ⟨h1, h2⟩ := split_parts s
  refine (Tryd.strings_Split ⟨s.toArray⟩ ⟨#[32]⟩ m w (by simpa [ByteArray.size] using hs) (hm w (Below.refl _ _)) (by decide)).mono ?_
  rintro e w' ⟨rfl, rfl⟩
  rw [h1, h2, List.map_map]
  exact ⟨rfl, rfl⟩
end Go.Proofs.YtcinohmhhglpjaaDoor
