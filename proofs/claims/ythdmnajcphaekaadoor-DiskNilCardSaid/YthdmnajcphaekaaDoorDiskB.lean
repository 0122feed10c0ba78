/- Contracts of package disk's named and of the reference's Named. -/
import Derived.Test.YthdmnajcphaekaaDoorDiskA
import Derived.Test.YthdmnajcphaekaaDoorShelf
import Derived.Shelf.Strings.SlTrimAscii
namespace Go.Proofs.YthdmnajcphaekaaDoor
open Go.RowKit

def nameSet : List UInt8 := [97, 98, 99, 100, 101, 102, 103, 104, 105, 106, 107, 108, 109, 110, 111, 112, 113, 114, 115, 116, 117, 118, 119, 120, 121, 122, 48, 49, 50, 51, 52, 53, 54, 55, 56, 57, 46]
def nameOk (l : Nm) : Bool := decide (1 ≤ l.length ∧ l.length ≤ 32) && l.all (fun b => nameSet.contains b)
theorem dropWhile_nil {p : UInt8 → Bool} : ∀ {l : List UInt8}, l.dropWhile p = [] → ∀ x ∈ l, p x = true
  | [], _ => by simp
  | a :: r, h => by
    rw [List.dropWhile_cons] at h
    split at h
    · rename_i ha
      intro x hx
      rcases List.mem_cons.1 hx with rfl | hx
      · exact ha
      · exact dropWhile_nil h x hx
    · cases h
theorem dropWhile_head {p : UInt8 → Bool} : ∀ {l : List UInt8}, l.dropWhile p ≠ [] → ∃ x ∈ l.dropWhile p, p x = false
  | [], h => by simp at h
  | a :: r, h => by
    rw [List.dropWhile_cons] at h ⊢
    split at h
    · rename_i ha
      rw [if_pos ha]
      exact dropWhile_head h
    · rename_i ha
      rw [if_neg ha]
      exact ⟨a, by simp, by simpa using ha⟩
theorem dropWhile_all {p : UInt8 → Bool} : ∀ {l : List UInt8}, (∀ x ∈ l, p x = true) → l.dropWhile p = []
  | [], _ => rfl
  | a :: r, h => by
    rw [List.dropWhile_cons, if_pos (h a (by simp))]
    exact dropWhile_all fun x hx => h x (List.mem_cons_of_mem _ hx)
theorem trim_empty (l cs : List UInt8) : Lib.trimS l cs = [] ↔ l.all (fun b => cs.contains b) = true := by
  unfold Lib.trimS Lib.trimLeftS Lib.trimRightS
  constructor
  · intro h
    have h1 := dropWhile_nil h
    have h2 : l.reverse.dropWhile (fun b => cs.contains b) = [] := by
      apply Classical.byContradiction
      intro hne
      obtain ⟨x, hx, hp⟩ := dropWhile_head hne
      have := h1 x (by rw [List.mem_reverse]; exact hx)
      rw [hp] at this
      cases this
    rw [List.all_eq_true]
    intro x hx
    exact dropWhile_nil h2 x (by rw [List.mem_reverse]; exact hx)
  · intro h
    rw [List.all_eq_true] at h
    have h2 : l.reverse.dropWhile (fun b => cs.contains b) = [] := by
      refine dropWhile_all fun x hx => ?_
      exact h x (by rw [← List.mem_reverse]; exact hx)
    rw [h2]
    rfl

set_option maxRecDepth 20000 in
set_option maxHeartbeats 2000000 in
theorem diskNamed (s : ByteArray) (w : World) (hs : s.size ≤ 9223372036854775807) :
    Calls Tryd.prog 38 #[.string s] w fun e w' => e = .returned (.bool (nameOk s.data.toList)) ∧ Below w.heap.size w w' := by
  have T : Hid (Calls Tryd.prog 51 #[.string s, .string ⟨#[97, 98, 99, 100, 101, 102, 103, 104, 105, 106, 107, 108, 109, 110, 111, 112, 113, 114, 115, 116, 117, 118, 119, 120, 121, 122, 48, 49, 50, 51, 52, 53, 54, 55, 56, 57, 46]⟩] w fun e w' => e = .returned (.string ⟨(Lib.trimS s.data.toList nameSet).toArray⟩) ∧ Below w.heap.size w w') :=
    Lib.hid (Any.strings_Trim_laid Tryd.lays160 (by kernel_rfl) s ⟨#[97, 98, 99, 100, 101, 102, 103, 104, 105, 106, 107, 108, 109, 110, 111, 112, 113, 114, 115, 116, 117, 118, 119, 120, 121, 122, 48, 49, 50, 51, 52, 53, 54, 55, 56, 57, 46]⟩ w hs (by decide) (ascii_of_all (by decide)))
  have hsz : s.data.toList.length = s.size := rfl
  have HE := Lib.hid (trim_empty s.data.toList nameSet)
  by_cases h0 : s.size = 0
  · have hse : s = ⟨#[]⟩ := by
      obtain ⟨⟨l⟩⟩ := s
      cases l with
      | nil => rfl
      | cons a r => simp [ByteArray.size] at h0
    have hv : nameOk s.data.toList = false := by unfold nameOk; rw [hsz, h0]; rfl
    rw [hv]
    subst hse
    clear T HE hsz hv h0 hs
    go_enter Tryd.func38, Tryd.ntmps38
    go_wp2_with fail
    go_ret
    exact ⟨rfl, Below.refl _ _⟩
  · have hse : s.toList.isEmpty = false := by
      rw [Lib.toList_data]
      cases h : s.data.toList with
      | nil => rw [h] at hsz; simp at hsz; omega
      | cons _ _ => rfl
    by_cases h1 : s.size ≤ 32
    · have hv : nameOk s.data.toList = s.data.toList.all (fun b => nameSet.contains b) := by
        unfold nameOk; rw [hsz, decide_eq_true (by omega), Bool.true_and]
      rw [hv]
      have HE2 : Hid ((s.data.toList.all fun b => nameSet.contains b) = decide (Lib.trimS s.data.toList nameSet = [])) := Lib.hid (by
        rw [Bool.eq_iff_iff, decide_eq_true_eq]; exact HE.out.symm)
      rw [HE2.out]
      clear HE hv hsz HE2
      generalize Lib.trimS s.data.toList nameSet = tr at *
      cases htr : tr with
      | nil =>
        subst htr
        go_enter Tryd.func38, Tryd.ntmps38
        go_wp2_with fail
        refine T.out.mono ?_
        rintro e w1 ⟨rfl, hb⟩
        go_wp2_with fail
        go_ret
        exact ⟨rfl, hb⟩
      | cons a r =>
        subst htr
        have hne : (⟨(a :: r).toArray⟩ : ByteArray).toList.isEmpty = false := by rw [Lib.toList_data]; rfl
        go_enter Tryd.func38, Tryd.ntmps38
        go_wp2_with fail
        refine T.out.mono ?_
        rintro e w1 ⟨rfl, hb⟩
        go_wp2_with fail
        go_ret
        exact ⟨by simp, hb⟩
    · have hv : nameOk s.data.toList = false := by unfold nameOk; rw [hsz, decide_eq_false (by omega), Bool.false_and]
      rw [hv]
      clear T HE hsz hv
      go_enter Tryd.func38, Tryd.ntmps38
      go_wp2_with fail
      go_ret
      exact ⟨rfl, Below.refl _ _⟩
end Go.Proofs.YthdmnajcphaekaaDoor
