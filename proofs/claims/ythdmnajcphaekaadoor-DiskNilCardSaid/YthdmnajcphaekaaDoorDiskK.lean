/- Plain: sizes behind a change; what a change that is not refused is like. -/
import Derived.Test.YthdmnajcphaekaaDoorDiskH
namespace Go.Proofs.YthdmnajcphaekaaDoor
open Go.RowKit

theorem write_info : (Tryd.prog.info? 73).map (fun i => (i.zero, i.size, i.bytes)) = some (some (.agg #[.int .i64 0, .string ⟨#[]⟩, .int .i64 0, .slice none 0 0]), 4, 56) := by kernel_rfl
theorem fsize_fset (F : FS) (hr : Rising F) (n : Nm) (b : List UInt8) : fsize (fset F n b) + ((fget F n).getD []).length = fsize F + b.length := by
  induction F with
  | nil => simp [fset, fsize, fget]
  | cons p r ih =>
    obtain ⟨k, c⟩ := p
    have hr' := List.pairwise_cons.1 hr
    rw [fset]
    split
    · rename_i h
      have hne : k ≠ n := fun e => by rw [e] at h; exact nm_lt_irrefl _ h
      have := ih hr'.2
      rw [fget_cons, if_neg hne]
      simp only [fsize, List.map_cons, List.sum_cons] at this ⊢
      omega
    · rename_i h
      split
      · rename_i h2
        rw [fget_cons, if_pos h2]
        simp [fsize]
        omega
      · rename_i h2
        have : fget ((k, c) :: r) n = none := by
          rw [fget_none]
          intro hm
          obtain ⟨q, hq, e⟩ := List.mem_map.1 hm
          have hlt := nm_tri k n h h2
          rcases List.mem_cons.1 hq with rfl | hq
          · exact h2 e
          · have := hr'.1 q hq
            rw [e] at this
            exact nm_lt_irrefl _ (nm_trans hlt this)
        rw [this]
        simp [fsize]
        omega
theorem fsize_fdel (F : FS) (hr : Rising F) (n : Nm) : fsize (fdel F n) + ((fget F n).getD []).length = fsize F := by
  induction F with
  | nil => simp [fdel, fsize, fget]
  | cons p r ih =>
    obtain ⟨k, c⟩ := p
    have hr' := List.pairwise_cons.1 hr
    have ih' := ih hr'.2
    unfold fdel at ih' ⊢
    rw [List.filter_cons, fget_cons]
    by_cases h : k = n
    · subst h
      have hn : fget r k = none := by
        rw [fget_none]
        intro hm
        obtain ⟨q, hq, e⟩ := List.mem_map.1 hm
        have := hr'.1 q hq
        rw [e] at this
        exact nm_lt_irrefl _ this
      rw [hn] at ih'
      simp [fsize] at ih' ⊢
      omega
    · rw [if_neg h, if_pos (by simpa using h)]
      simp only [fsize, List.map_cons, List.sum_cons] at ih' ⊢
      omega
theorem fsize_do (F : FS) (hr : Rising F) (c : Wr) (hk : c.kind = 1 ∨ c.kind = 2 ∨ c.kind = 3) : fsize (doF F c) + ((fget F c.name).getD []).length = fsize F + afterN ((fget F c.name).getD []).length c := by
  unfold doF afterN
  rcases hk with hk | hk | hk
  · rw [if_pos hk, if_pos hk, fsize_fset F hr, putD_len]
  · rw [if_neg (by omega), if_pos hk, if_neg (by omega), if_pos hk, fsize_fset F hr, resizeD_len]
  · rw [if_neg (by omega), if_neg (by omega), if_pos hk, if_neg (by omega), if_neg (by omega)]
    have := fsize_fdel F hr c.name
    omega
theorem le_sum_mem {l : List Nat} {x : Nat} (h : x ∈ l) : x ≤ l.sum := by
  induction l with
  | nil => simp at h
  | cons a r ih =>
    rw [List.sum_cons]
    rcases List.mem_cons.1 h with rfl | h
    · omega
    · have := ih h; omega
theorem fsize_ge (F : FS) (n : Nm) : ((fget F n).getD []).length ≤ fsize F := by
  cases h : fget F n with
  | none => simp
  | some l =>
    have hm := fget_mem h
    unfold fsize
    exact le_sum_mem (List.mem_map.2 ⟨_, hm, rfl⟩)
theorem changeD_eq0 (D : DSt) (c : Wr) (off : Int) (h : refuseD D c off = 0) (hb : (burnD D).down = false) : changeD D c off = (0, { burnD D with unsure := D.unsure ++ [c] }) := by
  unfold changeD; rw [h, if_neg (by simp), if_neg (by rw [hb]; simp), burnD_unsure]
theorem changeD_burnt (D : DSt) (c : Wr) (off : Int) (h : refuseD D c off = 0) (hb : (burnD D).down = true) : changeD D c off = (11, burnD D) := by
  unfold changeD; rw [h, if_neg (by simp), if_pos hb]
theorem changeD_err (D : DSt) (c : Wr) (off : Int) {k : Int} (h : refuseD D c off = k) (hk : k ≠ 0) : changeD D c off = (k, D) := by
  unfold changeD; rw [h, if_pos hk]
theorem refuse_down {D : DSt} {c : Wr} {off : Int} (hd : D.down = true) : refuseD D c off = 11 := by unfold refuseD; rw [if_pos hd]
theorem refuse_bad {D : DSt} {c : Wr} {off : Int} (hd : D.down = false) (h : nameOk c.name = false ∨ off < 0 ∨ 4194304 < off) : refuseD D c off = 1 := by unfold refuseD; rw [if_neg (by rw [hd]; simp), if_pos h]
theorem refuse_many {D : DSt} {c : Wr} {off : Int} (hd : D.down = false) (hn : nameOk c.name = true) (h0 : 0 ≤ off) (h1 : off ≤ 4194304) (h : fget D.files c.name = none ∧ c.kind ≠ 3 ∧ 4096 ≤ D.files.length) : refuseD D c off = 7 := by
  unfold refuseD; rw [if_neg (by rw [hd]; simp), if_neg (by rw [hn]; simp; omega), if_pos h]
theorem refuse_rest {D : DSt} {c : Wr} {off : Int} (hd : D.down = false) (hn : nameOk c.name = true) (h0 : 0 ≤ off) (h1 : off ≤ 4194304) (h : ¬ (fget D.files c.name = none ∧ c.kind ≠ 3 ∧ 4096 ≤ D.files.length)) :
    refuseD D c off = if ((fget D.files c.name).getD []).length < afterN ((fget D.files c.name).getD []).length c ∧ D.room < (fsize D.files : Int) + ((afterN ((fget D.files c.name).getD []).length c : Int) - ((fget D.files c.name).getD []).length) then 10 else 0 := by
  unfold refuseD; rw [if_neg (by rw [hd]; simp), if_neg (by rw [hn]; simp; omega), if_neg h]
/-- A change that is not refused is one that can be done. -/
theorem okW {D : DSt} {c : Wr} (hk : c.kind = 1 ∨ c.kind = 2 ∨ c.kind = 3) (ho : c.off ≤ 4194304) (hd : c.kind ≠ 1 → c.data = []) (hroom : D.room ≤ 4194304) (hsm : ∀ k l, fget D.files k = some l → l.length ≤ 4194304)
    (h : ¬ (((fget D.files c.name).getD []).length < afterN ((fget D.files c.name).getD []).length c ∧ D.room < (fsize D.files : Int) + ((afterN ((fget D.files c.name).getD []).length c : Int) - ((fget D.files c.name).getD []).length))) : c.ok := by
  refine ⟨hk, ?_⟩
  by_cases h1 : c.kind = 1
  · have hge := fsize_ge D.files c.name
    have hol : ((fget D.files c.name).getD []).length ≤ 4194304 := by
      cases hg : fget D.files c.name with
      | none => simp
      | some l => exact hsm _ _ hg
    unfold afterN at h
    rw [if_pos h1] at h
    omega
  · rw [hd h1]
    simpa using ho
theorem DSt.ok.changed {D : DSt} {c : Wr} (h : D.ok) (hc : c.ok) : ({ burnD D with unsure := D.unsure ++ [c] } : DSt).ok := by
  have h' : (burnD D).room = D.room ∧ (0 ≤ (burnD D).fuse ∧ (burnD D).fuse ≤ 9223372036854775807) ∧ (burnD D).sure = D.sure := by
    have := h.2.1
    unfold burnD
    split
    · exact ⟨rfl, ⟨by simp only; omega, by simp only; omega⟩, rfl⟩
    · exact ⟨rfl, h.2.1, rfl⟩
  refine ⟨by simp only; rw [h'.1]; exact h.1, h'.2.1, by simp only; rw [h'.2.2]; exact h.2.2.1, fun u hu => ?_⟩
  rcases List.mem_append.1 hu with hu | hu
  · exact h.2.2.2 u hu
  · rw [List.mem_singleton] at hu; subst hu; exact hc
theorem DSt.ok.files {D : DSt} (h : D.ok) : ∀ k l, fget D.files k = some l → l.length ≤ 4194304 := foldl_small h.2.2.1 h.2.2.2
theorem DSt.files_len (D : DSt) : D.files.length ≤ D.cnt := foldl_len D.unsure D.sure
theorem DSt.size_le {D : DSt} (h : D.ok) (hr : Rising D.files) (hc : D.cnt ≤ 1000000) : fsize D.files ≤ 4194304000000 := by
  have h1 := fsize_small hr h.files
  have h2 : D.files.length * 4194304 ≤ 1000000 * 4194304 := Nat.mul_le_mul_right _ (Nat.le_trans (DSt.files_len D) hc)
  exact Nat.le_trans h1 (Nat.le_trans h2 (by decide))
theorem afterN_le (n : Nat) (c : Wr) : afterN n c ≤ n + c.off + c.data.length := by
  unfold afterN
  split
  · omega
  · split <;> omega
theorem DSt.do_le {D : DSt} (h : D.ok) (hr : Rising D.files) (hc : D.cnt ≤ 1000000) {c : Wr} (hk : c.kind = 1 ∨ c.kind = 2 ∨ c.kind = 3) (ho : c.off ≤ 4194304) (hd : c.data.length ≤ 140737488355328) : fsize (doF D.files c) ≤ 4611686018427387904 := by
  have e1 := fsize_do D.files hr c hk
  have e2 := DSt.size_le h hr hc
  have e3 := afterN_le ((fget D.files c.name).getD []).length c
  have e4 : ((fget D.files c.name).getD []).length ≤ 4194304 := by
    cases hg : fget D.files c.name with
    | none => simp
    | some l => exact h.files _ _ hg
  omega
end Go.Proofs.YthdmnajcphaekaaDoor
