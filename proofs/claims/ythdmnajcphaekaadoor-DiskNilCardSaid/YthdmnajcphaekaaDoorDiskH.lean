/- Plain: what a change of a disk answers, and what the disk is behind it. -/
import Derived.Test.YthdmnajcphaekaaDoorDiskG
namespace Go.Proofs.YthdmnajcphaekaaDoor
open Go.RowKit

theorem fset_len (F : FS) (n : Nm) (b : List UInt8) : (fset F n b).length ≤ F.length + 1 := by
  induction F with
  | nil => simp [fset]
  | cons p r ih =>
    obtain ⟨k, c⟩ := p
    rw [fset]
    split
    · simp only [List.length_cons]; omega
    · split
      · simp
      · simp
theorem doF_len (F : FS) (w : Wr) : (doF F w).length ≤ F.length + 1 := by
  unfold doF
  split
  · exact fset_len _ _ _
  · split
    · exact fset_len _ _ _
    · split
      · exact Nat.le_trans (List.length_filter_le _ _) (by omega)
      · omega
theorem foldl_len (us : List Wr) (F : FS) : (us.foldl doF F).length ≤ F.length + us.length := by
  induction us generalizing F with
  | nil => simp
  | cons u r ih =>
    rw [List.foldl_cons, List.length_cons]
    have := ih (doF F u)
    have := doF_len F u
    omega
theorem foldl_small {us : List Wr} {F : FS} (h : ∀ k l, fget F k = some l → l.length ≤ 4194304) (hu : ∀ u ∈ us, u.ok) : ∀ k l, fget (us.foldl doF F) k = some l → l.length ≤ 4194304 := by
  induction us generalizing F with
  | nil => exact h
  | cons u r ih =>
    rw [List.foldl_cons]
    exact ih (doF_small h (hu u (by simp))) (fun v hv => hu v (List.mem_cons_of_mem _ hv))
theorem fsize_small {F : FS} (hr : Rising F) (h : ∀ k l, fget F k = some l → l.length ≤ 4194304) : fsize F ≤ F.length * 4194304 := by
  have hm : ∀ p ∈ F, p.2.length ≤ 4194304 := fun p hp => h p.1 p.2 (fget_of_mem (rising_nodup hr) hp)
  clear h hr
  unfold fsize
  induction F with
  | nil => simp
  | cons p r ih =>
    have h1 := hm p (by simp)
    have h2 := ih (fun q hq => hm q (List.mem_cons_of_mem _ hq))
    simp only [List.map_cons, List.sum_cons, List.length_cons]
    omega
/-- Why a change is refused; 0: it is not. -/
def refuseD (D : DSt) (c : Wr) (off : Int) : Int :=
  if D.down = true then 11
  else if nameOk c.name = false ∨ off < 0 ∨ 4194304 < off then 1
  else if fget D.files c.name = none ∧ c.kind ≠ 3 ∧ 4096 ≤ D.files.length then 7
  else if ((fget D.files c.name).getD []).length < afterN ((fget D.files c.name).getD []).length c ∧ D.room < (fsize D.files : Int) + ((afterN ((fget D.files c.name).getD []).length c : Int) - ((fget D.files c.name).getD []).length) then 10
  else 0
def changeD (D : DSt) (c : Wr) (off : Int) : Int × DSt :=
  if refuseD D c off ≠ 0 then (refuseD D c off, D)
  else if (burnD D).down = true then (11, burnD D)
  else (0, { burnD D with unsure := (burnD D).unsure ++ [c] })
end Go.Proofs.YthdmnajcphaekaaDoor
