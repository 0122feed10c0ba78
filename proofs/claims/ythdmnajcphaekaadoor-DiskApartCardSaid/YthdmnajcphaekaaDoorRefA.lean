/- RefA: put together by merge.py of: RefDA, RefDB, RefDC, RefDD. -/
import Derived.Test.YthdmnajcphaekaaDoorDskNum
import Derived.Test.YthdmnajcphaekaaDoorOpApp
import Derived.Test.YthdmnajcphaekaaDoorClone
import Derived.Test.YthdmnajcphaekaaDoorRowS
import Derived.Test.YthdmnajcphaekaaDoorDskE
import Derived.Test.YthdmnajcphaekaaDoorRowX
import Derived.Test.YthdmnajcphaekaaDoorAppW
import Derived.BigQuiet
import Derived.Deep.QuietTactic
import Derived.IntWalk
/- Contracts of the reference's disk: find, own, Size. -/
namespace Go.Proofs.YthdmnajcphaekaaDoor
open Go.RowKit

/-- A file in memory. -/
structure FRow where
  name : Nm
  A : Option Addr
  c : Nat
  data : List UInt8
def FRow.val (p : FRow) : Nm × List UInt8 := (p.name, p.data)
def FRow.cells (p : FRow) : List Value := [.string ⟨p.name.toArray⟩, .slice p.A p.data.length p.c]
theorem file_info : (Tryd.prog.info? 46).map (fun i => (i.zero, i.size, i.bytes)) = some (some (.agg #[.string ⟨#[]⟩, .slice none 0 0]), 2, 40) := by kernel_rfl
theorem cells_len (L : List FRow) : ∀ r ∈ L.map FRow.cells, r.length = 2 := by
  intro r hr
  obtain ⟨p, _, rfl⟩ := List.mem_map.1 hr
  rfl
/-- A row of files that can be read. -/
def FRd (w : World) (X : Option Addr) (L : List FRow) : Prop := RS w X 2 (L.map FRow.cells) ∧ ∀ p ∈ L, RB w p.A p.data
theorem FRd.below {w w' : World} {X : Option Addr} {L : List FRow} (h : FRd w X L) (hb : Below w.heap.size w w') : FRd w' X L := ⟨h.1.below hb, fun p hp => (h.2 p hp).below hb⟩
theorem FRd.row {w : World} {X : Option Addr} {L : List FRow} (h : FRd w X L) {k : Nat} (hk : k < L.length) : ∃ b off, X = some ⟨b, off, none⟩ ∧ b < w.heap.size ∧ w.cell? ⟨b, off + k * 2, none⟩ = some (.string ⟨L[k].name.toArray⟩) ∧ w.cell? ⟨b, off + k * 2 + 1, none⟩ = some (.slice L[k].A L[k].data.length L[k].c) := by
  obtain ⟨b, off, rfl, hb, hc⟩ := h.1.row (i := k) (by simpa using hk)
  have h0 := hc 0 (.string ⟨L[k].name.toArray⟩) (by simp [FRow.cells])
  have h1 := hc 1 (.slice L[k].A L[k].data.length L[k].c) (by simp [FRow.cells])
  exact ⟨b, off, rfl, hb, h0, h1⟩

theorem str_geq (a b : Nm) (t : TypeId) : binOp .geq t (.string ⟨a.toArray⟩) (.string ⟨b.toArray⟩) = pure (.bool (!(decide (a < b)))) := by
  simp [binOp, Op.stringOp, bytesLess_lt]
set_option maxRecDepth 20000 in
set_option maxHeartbeats 2000000 in
theorem refFind (X : Option Addr) (c : Nat) (L : List FRow) (name : Nm) (w : World) (h : FRd w X L) (hl : L.length ≤ 2000000) :
    Calls Tryd.prog 49 #[.slice X L.length c, .string ⟨name.toArray⟩] w fun e w' => e = .returned (.tuple #[.int .i64 (fpos (L.map FRow.val) name : Int), .bool (fat (L.map FRow.val) name)]) ∧ Below w.heap.size w w' := by
  obtain ⟨F, hF⟩ : ∃ F, F = L.map FRow.val := ⟨_, rfl⟩
  have hFl : F.length = L.length := by rw [hF, List.length_map]
  have hFk : ∀ k (hk : k < L.length) (hk' : k < F.length), F[k].1 = L[k].name := by subst hF; intro k hk hk'; simp [FRow.val]
  rw [← hF]
  have HF := Lib.hid hFk
  have H := Lib.hid h
  clear hF hFk h
  go_enter Tryd.func49, Tryd.ntmps49
  go_wp2_with fail
  go_loop [6] (fun i => ∃ k : Nat, k ≤ L.length ∧ i = .int .i64 (k : Int) ∧ Hid (∀ j (hj : j < k) (hj' : j < F.length), F[j].1 < name)) (fun i => L.length - (intOf i).toNat)
  case atStart => exact ⟨0, Nat.zero_le _, rfl, Lib.hid (fun j hj => by omega)⟩
  case round =>
    obtain ⟨k, hk, rfl, hlow⟩ := hrel
    by_cases hlt : k < L.length
    · obtain ⟨b, off, rfl, _, c0, _⟩ := H.out.row hlt
      have hltF : k < F.length := by omega
      have hnk := HF.out k hlt hltF
      by_cases hless : F[k].1 < name
      · have hbl := str_geq L[k].name name; rw [← hnk, decide_eq_true hless, hnk] at hbl; simp only [Bool.not_true] at hbl
        have HN : Hid (∀ j (hj : j < k + 1) (hj' : j < F.length), F[j].1 < name) := Lib.hid fun j hj hj' => by
          rcases Nat.lt_or_ge j k with h1 | h1
          · exact hlow.out j h1 hj'
          · obtain rfl : j = k := by omega
            exact hless
        generalize L[k].name = nk at *
        clear hnk hless hlow hltF hFl
        go_wp2_with fail
        go_round
        case rel => exact ⟨k + 1, by omega, by go_num, HN⟩
        case measure => simp [intOf]; omega
      · have hbl := str_geq L[k].name name; rw [← hnk, decide_eq_false hless, hnk] at hbl; simp only [Bool.not_false] at hbl
        obtain ⟨e1, e2⟩ := fpos_at hltF (fun j hj => hlow.out j hj (by omega)) hless
        rw [hnk] at e2
        generalize L[k].name = nk at *
        have HE : Hid (fpos F name = k ∧ fat F name = (nk == name)) := Lib.hid ⟨e1, by rw [e2, Bool.eq_iff_iff]; simp⟩
        clear hnk hless hlow hltF hFl e1 e2
        go_wp2_with fail
        go_quiet (fail)
        go_wp2_with fail
        go_ret2
        exact ⟨by rw [HE.out.1, HE.out.2]; rfl, below_drewN (Below.refl _ _) _⟩
    · obtain rfl : k = L.length := by omega
      obtain ⟨e1, e2⟩ := fpos_end (F := F) (n := name) (fun j hj => hlow.out j (by omega) hj)
      have HE : Hid (fpos F name = L.length ∧ fat F name = false) := Lib.hid ⟨e1.trans hFl, e2⟩
      clear hlow e1 e2 hFl
      go_wp2_with fail
      go_ret2
      exact ⟨by rw [HE.out.1, HE.out.2]; rfl, Below.refl _ _⟩

set_option maxRecDepth 20000 in
set_option maxHeartbeats 2000000 in
theorem refSize (X : Option Addr) (c : Nat) (L : List FRow) (w : World) (h : FRd w X L) (hl : L.length ≤ 2000000) (hd : fsize (L.map FRow.val) ≤ 4611686018427387904) :
    Calls Tryd.prog 30 #[.slice X L.length c] w fun e w' => e = .returned (.int .i64 (fsize (L.map FRow.val) : Int)) ∧ Below w.heap.size w w' := by
  have hpre : ∀ k, k < L.length → fsize ((L.take (k + 1)).map FRow.val) = fsize ((L.take k).map FRow.val) + (L[k]?.map (fun p => p.data.length)).getD 0 ∧ fsize ((L.take (k + 1)).map FRow.val) ≤ fsize (L.map FRow.val) := by
    intro k hk
    have e1 : fsize ((L.take (k + 1)).map FRow.val) = fsize ((L.take k).map FRow.val) + L[k].data.length := by
      rw [List.take_succ_eq_append_getElem hk, List.map_append]
      simp [fsize, FRow.val]
    refine ⟨by rw [e1, List.getElem?_eq_getElem hk]; rfl, ?_⟩
    have : fsize (L.map FRow.val) = fsize ((L.take (k + 1)).map FRow.val) + fsize ((L.drop (k + 1)).map FRow.val) := by
      conv => lhs; rw [← List.take_append_drop (k + 1) L, List.map_append]
      unfold fsize
      rw [List.map_append, List.sum_append]
    omega
  have HP := Lib.hid hpre
  have H := Lib.hid h
  clear hpre h
  go_enter Tryd.func30, Tryd.ntmps30
  go_wp2_with fail
  go_loop [3, 4] (fun n i => ∃ k a : Nat, k ≤ L.length ∧ i = .int .i64 (k : Int) ∧ n = .int .i64 (a : Int) ∧ a ≤ 4611686018427387904 ∧ Hid (a = fsize ((L.take k).map FRow.val))) (fun _ i => L.length - (intOf i).toNat)
  case atStart => exact ⟨0, 0, Nat.zero_le _, rfl, rfl, by omega, Lib.hid rfl⟩
  case round =>
    obtain ⟨k, a, hk, rfl, rfl, ha, hsum⟩ := hrel
    by_cases hlt : k < L.length
    · obtain ⟨b, off, rfl, _, _, c1⟩ := H.out.row hlt
      obtain ⟨h1, h2⟩ := HP.out k hlt
      rw [List.getElem?_eq_getElem hlt, ← hsum.out] at h1
      simp only [Option.map_some, Option.getD_some] at h1
      have hle : a + L[k].data.length ≤ 4611686018427387904 := by omega
      have HN : Hid (a + L[k].data.length = fsize ((L.take (k + 1)).map FRow.val)) := Lib.hid h1.symm
      generalize L[k].data.length = dk at *
      clear h1 h2 hd hsum
      go_wp2_with fail
      go_round
      case rel => exact ⟨k + 1, a + dk, by omega, by go_num, by go_num, hle, HN⟩
      case measure => simp [intOf]; omega
    · obtain rfl : k = L.length := by omega
      have HE := hsum
      clear hsum
      go_wp2_with fail
      go_ret
      exact ⟨by have := HE.out; rw [List.take_of_length_le (Nat.le_refl _)] at this; rw [this]; rfl, Below.refl _ _⟩

theorem OB.base_up {w : World} {base base' c : Nat} {A : Option Addr} {l : List UInt8} (h : OB w base A c l) (hb : A.map (·.block) = some base') : OB w base' A c l := by
  refine ⟨h.1, ?_⟩
  rcases h.2 with h2 | ⟨g, cap, cur, hv, hg, r⟩
  · exact .inl h2
  · injection hv with hv1 hv2 hv3
    subst hv1 hv3
    injection hb with hb
    subst hb
    exact .inr ⟨g, _, cur, rfl, Nat.le_refl _, r⟩
/-- A row of files of the call's own, each file's bytes its own. -/
structure FO (n : Nat) (w : World) (A : Option Addr) (c : Nat) (L : List FRow) : Prop where
  row : OR w n 46 2 A c (L.map FRow.cells)
  dat : ∀ p ∈ L, OB w n p.A p.c p.data
  apart : L.Pairwise (fun p q => ∀ b, p.A.map (·.block) = some b → q.A.map (·.block) ≠ some b)
section
variable {n : Nat} {w w' : World} {A : Option Addr} {c : Nat} {L : List FRow}
theorem FO.rd (h : FO n w A c L) : FRd w A L := ⟨h.row.rs, fun p hp => (h.dat p hp).rb⟩
theorem FO.below (h : FO n w A c L) (hb : Below w.heap.size w w') : FO n w' A c L := ⟨h.row.below hb, fun p hp => (h.dat p hp).below hb, h.apart⟩
theorem FO.nil (n : Nat) (w : World) : FO n w none 0 [] := ⟨OR.nil _ _ _ _, by simp, List.Pairwise.nil⟩
end

set_option maxRecDepth 20000 in
set_option maxHeartbeats 4000000 in
theorem refOwn (X : Option Addr) (cx : Nat) (L : List FRow) (w : World) (h : FRd w X L) (hl : L.length ≤ 2000000) (hd : ∀ p ∈ L, p.data.length ≤ 140737488355328) :
    Calls Tryd.prog 34 #[.slice X L.length cx] w fun e w' => ∃ (A : Option Addr) (c : Nat) (L' : List FRow), e = .returned (.slice A L'.length c) ∧ Hid (L'.map FRow.val = L.map FRow.val) ∧ FO w.heap.size w' A c L' ∧ Below w.heap.size w w' := by
  have H := Lib.hid h
  have HD := Lib.hid hd
  clear h hd
  go_enter Tryd.func34, Tryd.ntmps34
  go_wp2_with fail
  go_loopw [3, 4] (fun o i wr => ∃ (k : Nat) (A : Option Addr) (c : Nat) (L' : List FRow), k ≤ L.length ∧ i = .int .i64 (k : Int) ∧ o = .slice A L'.length c ∧ L'.length ≤ k ∧ Hid (L'.map FRow.val = (L.take k).map FRow.val) ∧ FO w.heap.size wr A c L' ∧ Below w.heap.size w wr) (fun _ i _ => L.length - (intOf i).toNat)
  case atStart => exact ⟨0, none, 0, [], Nat.zero_le _, rfl, rfl, Nat.zero_le _, Lib.hid rfl, FO.nil _ _, Below.refl _ _⟩
  case round =>
    obtain ⟨k, A, c, L', hk, rfl, rfl, hl', hv, hO, hB⟩ := hrel
    by_cases hlt : k < L.length
    · obtain ⟨b, off, rfl, hbl, c0w, c1w⟩ := H.out.row hlt
      have HC : Hid (∀ w', Below w.heap.size w w' → w'.cell? ⟨b, off + k * 2, none⟩ = some (.string ⟨L[k].name.toArray⟩) ∧ w'.cell? ⟨b, off + k * 2 + 1, none⟩ = some (.slice L[k].A L[k].data.length L[k].c)) :=
        Lib.hid fun w' hb => ⟨(hb.cell (p := ⟨b, off + k * 2, none⟩) hbl).trans c0w, (hb.cell (p := ⟨b, off + k * 2 + 1, none⟩) hbl).trans c1w⟩
      have HDK := Lib.hid (H.out.2 _ (List.getElem_mem hlt))
      have hdk := HD.out _ (List.getElem_mem hlt)
      have HV : Hid (∀ q : FRow, q.val = L[k].val → (L' ++ [q]).map FRow.val = (L.take (k + 1)).map FRow.val) := Lib.hid fun q hq => by
        rw [List.take_succ_eq_append_getElem hlt, List.map_append, List.map_append, hv.out]
        simp [hq]
      have HVAL : Hid (L[k].val = (L[k].name, L[k].data)) := Lib.hid rfl
      rw [HVAL.out] at HV
      generalize L[k].name = nk at *
      generalize L[k].A = Dk at *
      generalize L[k].c = ck at *
      generalize L[k].data = dk at *
      have hlt1 : k + 1 ≤ L.length := hlt
      have HO := Lib.hid hO
      clear hv HVAL hO c0w c1w hbl
      go_wp2_with fail
      refine wp_region_planE_gen (by kernel_rfl) [(0, none), (1, none), (2, none), (3, none), (4, none), (5, none), (7, none), (8, none), (9, none), (10, none), (11, none), (6, some []), (12, some [11]), (13, none), (14, some [13]), (15, some [0]), (16, none)] (by kernel_rfl) (by kernel_rfl) (by decide) ?_
      intro wq hwq
      have hbq : Below wr.heap.size wr wq := by rw [hwq]; exact (Below.refl _ _).drew
      have hBq := hB.trans (hbq.mono hB.size)
      have HOq := Lib.hid (HO.out.below hbq)
      obtain ⟨c0, c1⟩ := HC.out wq hBq
      clear hwq hbq HO hB
      iterate 5 (refine planE_pure (v := ?_) rfl (by rfl) (fun w' => ?_) ?_; rotate_left; (focus (simp only [List.getElem_toArray, List.getElem_cons_succ, List.getElem_cons_zero]; go_simp; first | with_reducible rfl | (simp (disch := omega) only [if_pos, if_neg, dif_pos, Result.andThen_ok]; try with_reducible rfl) | skip)); try simp only [List.getElem_toArray, List.getElem_cons_succ, List.getElem_cons_zero, Act.put, List.setIfInBounds_toArray, List.set_cons_zero, List.set_cons_succ])
      refine planE_cells (v := ?_) [(⟨b, off + k * 2, none⟩, .string ⟨nk.toArray⟩)] (by simp; and_intros <;> assumption) rfl (by rfl) (fun w' hw' => ?_) ?_; rotate_left; (focus (simp only [List.forall_mem_cons, List.not_mem_nil, false_imp_iff, implies_true, and_true] at hw'; simp only [List.getElem_toArray, List.getElem_cons_succ, List.getElem_cons_zero]; go_simp; first | with_reducible rfl | (simp (disch := omega) only [if_pos, if_neg, dif_pos, Result.andThen_ok]; try with_reducible rfl) | skip)); try simp only [List.getElem_toArray, List.getElem_cons_succ, List.getElem_cons_zero, Act.put, List.setIfInBounds_toArray, List.set_cons_zero, List.set_cons_succ]
      iterate 4 (refine planE_pure (v := ?_) rfl (by rfl) (fun w' => ?_) ?_; rotate_left; (focus (simp only [List.getElem_toArray, List.getElem_cons_succ, List.getElem_cons_zero]; go_simp; first | with_reducible rfl | (simp (disch := omega) only [if_pos, if_neg, dif_pos, Result.andThen_ok]; try with_reducible rfl) | skip)); try simp only [List.getElem_toArray, List.getElem_cons_succ, List.getElem_cons_zero, Act.put, List.setIfInBounds_toArray, List.set_cons_zero, List.set_cons_succ])
      refine planE_cells (v := ?_) [(⟨b, off + k * 2 + 1, none⟩, .slice Dk dk.length ck)] (by simp; and_intros <;> assumption) rfl (by rfl) (fun w' hw' => ?_) ?_; rotate_left; (focus (simp only [List.forall_mem_cons, List.not_mem_nil, false_imp_iff, implies_true, and_true] at hw'; simp only [List.getElem_toArray, List.getElem_cons_succ, List.getElem_cons_zero]; go_simp; first | with_reducible rfl | (simp (disch := omega) only [if_pos, if_neg, dif_pos, Result.andThen_ok]; try with_reducible rfl) | skip)); try simp only [List.getElem_toArray, List.getElem_cons_succ, List.getElem_cons_zero, Act.put, List.setIfInBounds_toArray, List.set_cons_zero, List.set_cons_succ]
      refine planE_eff rfl (by rfl) (fun K hK => ?_)
      go_simp
      have hb2 : Below wq.heap.size wq (wq.alloc (.cells #[] 5)) := (Below.refl _ _).alloc (Nat.le_refl _) _
      have hB2 := hBq.trans (hb2.mono hBq.size)
      have hO2 := OB.made0 wq hBq.size
      have HO2 := Lib.hid (HOq.out.below hb2)
      obtain ⟨eb, heb⟩ : ∃ eb, eb = wq.heap.size := ⟨_, rfl⟩
      have hse : w.heap.size ≤ eb := by rw [heb]; exact hBq.size
      have hlts : ∀ g, g < wq.heap.size → g < eb := by rw [heb]; exact fun g h => h
      have HLT := Lib.hid (fun p (hp : p ∈ L') g hg => hlts g ((HOq.out.dat p hp).blk_lt g hg).2)
      have HRW := Lib.hid (fun g hg => hlts g (HOq.out.row.blk_lt g hg).2)
      rw [← heb] at hO2 ⊢
      generalize wq.alloc (.cells #[] 5) = w2 at *
      clear c0 c1 hb2 hBq heb hlts HOq
      obtain ⟨c0, c1⟩ := HC.out w2 hB2
      refine hK _ _ (by simp [owed, left] <;> (and_intros <;> first | trivial | assumption)) ?_
      clear hK K
      try simp only [List.getElem_toArray, List.getElem_cons_succ, List.getElem_cons_zero, Act.put, List.setIfInBounds_toArray, List.set_cons_zero, List.set_cons_succ]
      refine planE_eff rfl (by rfl) (fun K hK => ?_)
      refine op_appendB w2 (.tmp 17) (.tmp 22) (by rfl) eb (some ⟨eb, 0, none⟩) Dk 0 ck [] dk (by rfl) (by rfl) (OB.base_up hO2 rfl) (HDK.out.below hB2) (by simp; omega) (by have := hO2.blk_lt eb rfl; omega) ?_
      intro d' D' c' w3 hd3 hd1 hd2 ho3 hg3
      have hB3 := hB2.grown hg3 hB2.size (fun b hb => by simp [Value.ownBlock] at hb; omega)
      have hd' : Hid (d' = dk) := Lib.hid (by simpa using hd3.out)
      have HO3 : Hid (FO w.heap.size w3 A c L') := Lib.hid ⟨HO2.out.row.grown_row hg3 (fun g hg e => by
        have := HRW.out g e; rw [own_blk] at hg; injection hg with hg; simp at hg; omega), fun p hp => (HO2.out.dat p hp).grown_row hg3 (fun g hg e => by
        have := HLT.out p hp g e; rw [own_blk] at hg; injection hg with hg; simp at hg; omega), HO2.out.apart⟩
      simp only [List.length_nil, Nat.zero_add] at hd1 hd2
      clear c0 c1 hO2 hg3 hB2 hd3 HO2
      obtain ⟨c0, c1⟩ := HC.out w3 hB3
      refine hK _ _ (by simp [owed, left] <;> (and_intros <;> first | trivial | assumption)) ?_
      clear hK K
      try simp only [List.getElem_toArray, List.getElem_cons_succ, List.getElem_cons_zero, Act.put, List.setIfInBounds_toArray, List.set_cons_zero, List.set_cons_succ]
      iterate 1 (refine planE_pure (v := ?_) rfl (by rfl) (fun w' => ?_) ?_; rotate_left; (focus (simp only [List.getElem_toArray, List.getElem_cons_succ, List.getElem_cons_zero]; go_simp; first | with_reducible rfl | (simp (disch := omega) only [if_pos, if_neg, dif_pos, Result.andThen_ok]; try with_reducible rfl) | skip)); try simp only [List.getElem_toArray, List.getElem_cons_succ, List.getElem_cons_zero, Act.put, List.setIfInBounds_toArray, List.set_cons_zero, List.set_cons_succ])
      refine planE_eff rfl (by rfl) (fun K hK => ?_)
      go_simp
      have hb4 : Below w3.heap.size w3 (w3.alloc (.cells #[.string ⟨nk.toArray⟩, .slice D' d'.length c'] 46)) := (Below.refl _ _).alloc (Nat.le_refl _) _
      have hL4 := Blk.new w3 #[.string ⟨nk.toArray⟩, .slice D' d'.length c'] 46
      have hB4 := hB3.trans (hb4.mono hB3.size)
      have ho4 := ho3.below hb4
      have HO4 := Lib.hid (HO3.out.below hb4)
      obtain ⟨lb, hlb⟩ : ∃ lb, lb = w3.heap.size := ⟨_, rfl⟩
      rw [← hlb] at hL4 ⊢
      generalize w3.alloc (.cells #[.string ⟨nk.toArray⟩, .slice D' d'.length c'] 46) = w4 at *
      clear c0 c1 hB3 hb4 ho3 hlb HO3
      obtain ⟨c0, c1⟩ := HC.out w4 hB4
      refine hK _ _ (by simp [owed, left] <;> (and_intros <;> first | trivial | assumption)) ?_
      clear hK K
      try simp only [List.getElem_toArray, List.getElem_cons_succ, List.getElem_cons_zero, Act.put, List.setIfInBounds_toArray, List.set_cons_zero, List.set_cons_succ]
      refine planE_eff rfl (by rfl) (fun K hK => ?_)
      obtain ⟨i0, hi0, hz0, hz1, hz2⟩ := info_parts file_info
      refine op_appendS w4 (.tmp 11) (.tmp 25) 34 46 (by rfl) Tryd.underlying34 hi0 hz0 hz1 hz2 rfl (by decide) w.heap.size A (some ⟨lb, 0, none⟩) c 1 (L'.map FRow.cells) [[.string ⟨nk.toArray⟩, .slice D' d'.length c']] (by simp; rfl) (by rfl) HO4.out.row (RS.lit hL4) (by simp) (by simp [Value.oneCell']) (by simp; omega) (by simp; omega) hB4.size ?_
      intro ys A' cap' w5 hys hy1 hy2 hrow5 hg5 hA5
      have hB5 := hB4.grown hg5 hB4.size (fun b hb => (HO4.out.row.blk_lt b hb).1)
      have HYL : Hid (ys.length = L'.length + 1) := Lib.hid (by simp at hy1 hy2; omega)
      have HO5 : Hid (FO w.heap.size w5 A' cap' (L' ++ [⟨nk, D', c', d'⟩])) := Lib.hid ⟨by
          have := hrow5
          rw [hys.out] at this
          simpa [FRow.cells] using this, fun p hp => by
          rcases List.mem_append.1 hp with hp | hp
          · exact (HO4.out.dat p hp).grown_row hg5 ((HO4.out.dat p hp).ne_row HO4.out.row (by decide))
          · rw [List.mem_singleton] at hp
            subst hp
            exact (ho4.base_le hse).grown_row hg5 ((ho4.base_le hse).ne_row HO4.out.row (by decide)), by
          refine List.pairwise_append.2 ⟨HO4.out.apart, List.pairwise_singleton _ _, fun p hp q hq g hg e => ?_⟩
          rw [List.mem_singleton] at hq
          subst hq
          have := HLT.out p hp g hg
          have := (ho4.blk_lt g e).1
          omega⟩
      have HV5 := Lib.hid (HV.out ⟨nk, D', c', d'⟩ (by rw [hd'.out]; rfl))
      clear c0 c1 hrow5 hg5 hA5 hL4 hys hy1 hy2 ho4 HO4 hB4 HV
      rw [show ys.length = (L' ++ [(⟨nk, D', c', d'⟩ : FRow)]).length from by rw [HYL.out]; simp]
      generalize hL2 : L' ++ [(⟨nk, D', c', d'⟩ : FRow)] = L2 at *
      obtain ⟨c0, c1⟩ := HC.out w5 hB5
      refine hK _ _ (by simp [owed, left] <;> (and_intros <;> first | trivial | assumption)) ?_
      clear hK K
      try simp only [List.getElem_toArray, List.getElem_cons_succ, List.getElem_cons_zero, Act.put, List.setIfInBounds_toArray, List.set_cons_zero, List.set_cons_succ]
      iterate 1 (refine planE_pure (v := ?_) rfl (by rfl) (fun w' => ?_) ?_; rotate_left; (focus (simp only [List.getElem_toArray, List.getElem_cons_succ, List.getElem_cons_zero]; go_simp; first | with_reducible rfl | (simp (disch := omega) only [if_pos, if_neg, dif_pos, Result.andThen_ok]; try with_reducible rfl) | skip)); try simp only [List.getElem_toArray, List.getElem_cons_succ, List.getElem_cons_zero, Act.put, List.setIfInBounds_toArray, List.set_cons_zero, List.set_cons_succ])
      refine planE_end ?_
      have hl2 : L2.length ≤ k + 1 := by rw [← hL2]; simp; omega
      clear hL2
      go_wp2_with fail
      go_roundw
      case rel => exact ⟨k + 1, A', cap', L2, by omega, by go_num, rfl, hl2, HV5, HO5.out, hB5⟩
      case measure => simp [intOf]; omega
    · obtain rfl : k = L.length := by omega
      have HV := Lib.hid (hv.out.trans (by rw [List.take_of_length_le (Nat.le_refl _)]))
      have HO := Lib.hid hO
      clear hv hO
      go_wp2_with fail
      go_ret
      exact ⟨A, c, L', rfl, HV, HO.out, hB⟩
end Go.Proofs.YthdmnajcphaekaaDoor
/- Contracts of the reference's disk: Named, burns. -/
namespace Go.Proofs.YthdmnajcphaekaaDoor
open Go.RowKit

def byteOk (c : Int) : Prop := (97 ≤ c ∧ c ≤ 122) ∨ (48 ≤ c ∧ c ≤ 57) ∨ c = 46
theorem nameSet_ok (b : UInt8) : nameSet.contains b = true ↔ byteOk (b.toNat : Int) := by
  unfold byteOk
  simp only [nameSet, List.contains_iff_mem, List.mem_cons, List.not_mem_nil, or_false, ← UInt8.toNat_inj]
  simp
  omega
theorem nameOk_iff (l : Nm) : nameOk l = true ↔ (1 ≤ l.length ∧ l.length ≤ 32) ∧ ∀ k (hk : k < l.length), byteOk (l[k].toNat : Int) := by
  unfold nameOk
  rw [Bool.and_eq_true, decide_eq_true_eq, List.all_eq_true]
  constructor
  · rintro ⟨h1, h2⟩
    exact ⟨h1, fun k hk => (nameSet_ok _).1 (h2 _ (List.getElem_mem hk))⟩
  · rintro ⟨h1, h2⟩
    refine ⟨h1, fun x hx => ?_⟩
    obtain ⟨k, hk, rfl⟩ := List.getElem_of_mem hx
    exact (nameSet_ok _).2 (h2 k hk)

set_option maxRecDepth 20000 in
set_option maxHeartbeats 4000000 in
theorem refNamed (s : ByteArray) (w : World) (hs : s.size ≤ 9223372036854775807) :
    Calls Tryd.prog 52 #[.string s] w fun e w' => e = .returned (.bool (nameOk s.data.toList)) ∧ w = w' := by
  have HB : Hid (∀ k (hk : k < s.size), ¬ byteOk (s[k].toNat : Int) → nameOk s.data.toList = false) := Lib.hid fun k hk h => by
    rw [← Bool.not_eq_true, nameOk_iff]
    rintro ⟨_, h2⟩
    exact h (h2 k (by simpa using hk))
  have HG : Hid ((∀ k (hk : k < s.size), byteOk (s[k].toNat : Int)) → nameOk s.data.toList = decide (1 ≤ s.size ∧ s.size ≤ 32)) := Lib.hid fun h => by
    rw [Bool.eq_iff_iff, nameOk_iff, decide_eq_true_eq]
    exact ⟨fun h' => h'.1, fun h' => ⟨h', fun k hk => h k (by simpa using hk)⟩⟩
  go_enter Tryd.func52, Tryd.ntmps52
  go_wp2_with fail
  go_loop [3] (fun i => ∃ k : Nat, k ≤ s.size ∧ i = .int .i64 (k : Int) ∧ Hid (∀ j (hj : j < s.size), j < k → byteOk (s[j].toNat : Int))) (fun i => s.size - (intOf i).toNat)
  case atStart => exact ⟨0, Nat.zero_le _, rfl, Lib.hid (fun j _ hj => by omega)⟩
  case round =>
    obtain ⟨k, hk, rfl, hlow⟩ := hrel
    by_cases hlt : k < s.size
    · have HBk := Lib.hid (HB.out k hlt)
      have HN : Hid (byteOk (s[k].toNat : Int) → ∀ j (hj : j < s.size), j < k + 1 → byteOk (s[j].toNat : Int)) := Lib.hid fun hb j hj hjk => by
        rcases Nat.lt_or_ge j k with h1 | h1
        · exact hlow.out j hj h1
        · obtain rfl : j = k := by omega
          exact hb
      have hc0 : (0 : Int) ≤ s[k].toNat ∧ (s[k].toNat : Int) ≤ 255 := by have := s[k].toNat_lt; omega
      obtain ⟨hc0, hc1⟩ := hc0
      have hlt1 : k + 1 ≤ s.size := hlt
      clear hlow HB HG
      have hcase : ((97 ≤ (s[k].toNat : Int) ∧ (s[k].toNat : Int) ≤ 122) ∨ (48 ≤ (s[k].toNat : Int) ∧ (s[k].toNat : Int) ≤ 57) ∨ (s[k].toNat : Int) = 46) ∨ ((s[k].toNat : Int) < 46 ∨ (46 < (s[k].toNat : Int) ∧ (s[k].toNat : Int) < 48) ∨ (58 ≤ (s[k].toNat : Int) ∧ (s[k].toNat : Int) ≤ 96) ∨ 122 < (s[k].toNat : Int)) := by omega
      rcases hcase with hok | hbad
      · have HN2 := Lib.hid (HN.out hok)
        clear HBk HN
        rcases hok with ⟨ha, hb⟩ | ⟨ha, hb⟩ | ha
        all_goals
          go_wp2_with fail
          all_goals
            go_round
            case rel => exact ⟨k + 1, hlt1, by go_num, Lib.hid fun j hj h => HN2.out j hj h⟩
            case measure => simp [intOf]; omega
      · have HB2 := Lib.hid (HBk.out (by unfold byteOk; omega))
        have hne : ((s[k].toNat : Int) != 46) = true := by rw [bne_iff_ne]; omega
        clear HBk HN
        rcases hbad with ha | ⟨ha, hb⟩ | ⟨ha, hb⟩ | ha
        all_goals
          go_wp2_with fail
          all_goals
            first
              | (go_ret; exact ⟨by rw [HB2.out]; rfl, rfl⟩)
              | (exfalso; omega)
    · obtain rfl : k = s.size := by omega
      have HV := Lib.hid (HG.out fun j hj => hlow.out j hj hj)
      clear hlow HB HG
      by_cases h1 : 1 ≤ s.size
      · by_cases h2 : s.size ≤ 32
        · have HV2 : Hid (nameOk s.data.toList = true) := Lib.hid (by rw [HV.out]; simp [h1, h2])
          clear HV
          go_wp2_with fail
          go_ret
          exact ⟨by rw [HV2.out]; simp; omega, rfl⟩
        · have HV2 : Hid (nameOk s.data.toList = false) := Lib.hid (by rw [HV.out]; simp [h2])
          clear HV
          go_wp2_with fail
          go_ret
          exact ⟨by rw [HV2.out]; simp; omega, rfl⟩
      · have HV2 : Hid (nameOk s.data.toList = false) := Lib.hid (by rw [HV.out]; simp [h1])
        clear HV
        go_wp2_with fail
        go_ret
        exact ⟨by rw [HV2.out]; rfl, rfl⟩
end Go.Proofs.YthdmnajcphaekaaDoor
/- Contract of the reference's Do: a file that is gone. -/
namespace Go.Proofs.YthdmnajcphaekaaDoor
open Go.RowKit

/-- What a function that answers new files ends in. -/
def NewF (w : World) (F : FS) (e : Ending) (w' : World) : Prop :=
  ∃ (A : Option Addr) (c : Nat) (L : List FRow), e = .returned (.slice A L.length c) ∧ Hid (L.map FRow.val = F) ∧ FO w.heap.size w' A c L ∧ Below w.heap.size w w'
theorem FO.base_le {n n' : Nat} {w : World} {A : Option Addr} {c : Nat} {L : List FRow} (h : FO n w A c L) (hn : n' ≤ n) : FO n' w A c L := ⟨h.row.mono hn, fun p hp => (h.dat p hp).base_le hn, h.apart⟩
theorem refOwn' (X : Option Addr) (cx : Nat) (L : List FRow) (w : World) (h : FRd w X L) (hl : L.length ≤ 2000000) (hd : ∀ p ∈ L, p.data.length ≤ 140737488355328) :
    Calls Tryd.prog 34 #[.slice X L.length cx] w (NewF w (L.map FRow.val)) :=
  (refOwn X cx L w h hl hd).mono fun _ _ ⟨A, c, M, h1, h2, h3, h4⟩ => ⟨A, c, M, h1, h2, h3, h4⟩
theorem FO.grown_row {n : Nat} {w w' : World} {A : Option Addr} {c : Nat} {L : List FRow} {row : Option Nat} (h : FO n w A c L) (hg : w.grownBy w' row) (hr : ∀ b, row = some b → A.map (·.block) ≠ some b) (hd : ∀ p ∈ L, ∀ b, row = some b → p.A.map (·.block) ≠ some b) : FO n w' A c L :=
  ⟨h.row.grown_row hg hr, fun p hp => (h.dat p hp).grown_row hg (hd p hp), h.apart⟩

set_option maxRecDepth 20000 in
set_option maxHeartbeats 8000000 in
theorem refDo3 (X : Option Addr) (cx : Nat) (L : List FRow) (w : World) (c : Wr) (Y : Option Addr) (cy : Nat) (h : FRd w X L) (hr : Rising (L.map FRow.val)) (hl : L.length ≤ 1900000) (hd : ∀ p ∈ L, p.data.length ≤ 140737488355328) (hk : c.kind = 3) :
    Calls Tryd.prog 35 #[.slice X L.length cx, .agg (wrV c Y cy)] w (NewF w (doF (L.map FRow.val) c)) := by
  have hdo : doF (L.map FRow.val) c = fdel (L.map FRow.val) c.name := by unfold doF; rw [hk]; rfl
  have HDO : Hid (doF (L.map FRow.val) c = if fat (L.map FRow.val) c.name = true then (L.map FRow.val).eraseIdx (fpos (L.map FRow.val) c.name) else L.map FRow.val) := Lib.hid (by
    rw [hdo, fdel_eq hr]
    split
    · rw [List.eraseIdx_eq_take_drop_succ]
    · rfl)
  have HLT := Lib.hid (fun h => fat_lt (F := L.map FRow.val) (n := c.name) h)
  have hple := fpos_le (L.map FRow.val) c.name
  rw [List.length_map] at HLT hple
  obtain ⟨kind, name, off, data⟩ := c
  simp only at *
  subst hk
  have hal : Below w.heap.size w (w.alloc (.cells #[.int .i64 3, .string ⟨name.toArray⟩, .int .i64 (off : Int), .slice Y data.length cy] 73)) := (Below.refl _ _).alloc (Nat.le_refl _) _
  have hx := Blk.new w #[.int .i64 3, .string ⟨name.toArray⟩, .int .i64 (off : Int), .slice Y data.length cy] 73
  have HOWN := Lib.hid (refOwn' X cx L _ (h.below hal) (by omega) hd)
  obtain ⟨xb, hxb⟩ : ∃ xb, xb = w.heap.size := ⟨_, rfl⟩
  rw [← hxb] at hx
  have HXB := Lib.hid hxb
  clear h hd hxb hdo
  go_enter Tryd.func35, Tryd.ntmps35
  go_wp2_with fail
  rw [← HXB.out]
  generalize w.alloc (.cells #[.int .i64 3, .string ⟨name.toArray⟩, .int .i64 (off : Int), .slice Y data.length cy] 73) = w1 at *
  refine HOWN.out.mono ?_
  rintro e w2 ⟨A, ca, L2, rfl, hval, hO, hb2⟩
  have hB2 := hal.trans (hb2.mono hal.size)
  have hx2 := hx.kept hb2
  have hO2 := hO.base_le hal.size
  have HL2 : Hid (L2.length = L.length) := Lib.hid (by have := congrArg List.length hval.out; simpa using this)
  have hl2' : L2.length ≤ 1900000 := by rw [HL2.out]; exact hl
  have FIND := Lib.hid (refFind A ca L2 name w2 hO2.rd (by omega))
  rw [hval.out] at FIND
  have y1 := hx2.cell 1 rfl
  have HO2 := Lib.hid hO2
  clear hO hb2 hx HOWN hal hO2
  go_wp2_with fail
  refine FIND.out.mono ?_
  rintro e w3 ⟨rfl, hb3⟩
  have hB3 := hB2.trans (hb3.mono hB2.size)
  have hx3 := hx2.kept hb3
  have HO3 := Lib.hid (HO2.out.below hb3)
  clear y1 hb3 hx2 HO2 FIND hB2
  have y0 := hx3.cell 0 rfl
  obtain ⟨i, hi⟩ : ∃ i, i = fpos (L.map FRow.val) name := ⟨_, rfl⟩
  rw [← hi] at HDO HLT hple ⊢
  clear hi
  cases hat : fat (L.map FRow.val) name
  · rw [if_neg (by rw [hat]; simp)] at HDO
    have HF : Hid (NewF w (doF (L.map FRow.val) ⟨3, name, off, data⟩) (.returned (.slice A L2.length ca)) w3) := Lib.hid ⟨A, ca, L2, rfl, Lib.hid (hval.out.trans HDO.out.symm), HO3.out, hB3⟩
    clear hat HDO HLT hval HO3 hB3 hx3
    go_wp2_with fail
    go_ret
    exact HF.out
  · rw [if_pos hat] at HDO
    have hilt : i < L2.length := by rw [HL2.out]; exact HLT.out hat
    obtain ⟨b, rfl, hbn, _⟩ := HO3.out.row.head' (by simp; omega)
    have hcap := HO3.out.row.cap
    rw [List.length_map] at hcap
    obtain ⟨hcap, hcap2⟩ := hcap
    have hlcf : ¬ L2.length < i := by omega
    clear hat HLT hx3 hple
    have hrl : Hid ((L2.take i).map FRow.cells ++ (L2.drop (i + 1)).map FRow.cells = (L2.eraseIdx i).map FRow.cells) := Lib.hid (by rw [← List.map_append, ← List.eraseIdx_eq_take_drop_succ])
    have HFIN : Hid (∀ (A' : Option Addr) (c' : Nat) (w4 wq : World) (ys : List (List Value)), Hid (ys = (L2.take i).map FRow.cells ++ (L2.drop (i + 1)).map FRow.cells) → FO w.heap.size wq (some ⟨b, 0, none⟩) ca L2 → Below w.heap.size w wq → OR w4 w.heap.size 46 2 A' c' ys → wq.grownBy w4 (some b) →
        NewF w (doF (L.map FRow.val) ⟨3, name, off, data⟩) (.returned (.slice A' ys.length c')) w4) := Lib.hid fun A' c' w4 wq ys hys hO hB ho hg => by
      have hys' := hys.out
      rw [hrl.out] at hys'
      subst hys'
      refine ⟨A', c', L2.eraseIdx i, by rw [List.length_map], Lib.hid ?_, ⟨ho, fun p hp => ?_, hO.apart.sublist (List.eraseIdx_sublist _ _)⟩, hB.grown hg hB.size (fun k hk => by injection hk with hk; omega)⟩
      · rw [HDO.out, ← hval.out, eraseIdx_map']
      · have hp' := (List.eraseIdx_sublist _ _).subset hp
        exact (hO.dat p hp').grown_row hg (fun k hk => by injection hk with hk; subst hk; exact (hO.dat p hp').ne_row hO.row (by decide) b rfl)
    have htl : ((L2.take i).map FRow.cells).length = i := by simp; omega
    clear hrl HDO hval
    by_cases hcc : i + 1 < ca
    · go_wp2_with fail
      refine wp_region_planE_gen (by kernel_rfl) [(0, none), (1, none), (2, none), (3, none), (4, none), (5, none), (6, none), (7, some [2, 6]), (8, none)] (by kernel_rfl) (by kernel_rfl) (by decide) ?_
      intro wq hwq
      have hbq : Below w3.heap.size w3 wq := by rw [hwq]; exact (Below.refl _ _).drew
      have hBq := hB3.trans (hbq.mono hB3.size)
      have HOq := Lib.hid (HO3.out.below hbq)
      have hw1 : IntKind.i64.wrap ((i : Int) + 1) = (i : Int) + 1 := IntWalk.i64_in _ (by omega)
      have hw2 : ((i : Int) + 1).toNat = i + 1 := by omega
      have hw3 : (i : Int) + 1 ≤ (L2.length : Int) := by omega
      have hw4 : (0 : Int) ≤ (i : Int) + 1 := by omega
      have hw5 : ¬ ca = i + 1 := by omega
      clear hwq hbq HO3 hB3 y0
      iterate 7 (refine planE_pure (v := ?_) rfl (by rfl) (fun w' => ?_) ?_; rotate_left; (focus (simp only [List.getElem_toArray, List.getElem_cons_succ, List.getElem_cons_zero]; go_simp; first | with_reducible rfl | (simp (disch := omega) only [if_pos, if_neg, dif_pos, Result.andThen_ok]; try with_reducible rfl) | skip)); try simp only [List.getElem_toArray, List.getElem_cons_succ, List.getElem_cons_zero, Act.put, List.setIfInBounds_toArray, List.set_cons_zero, List.set_cons_succ])
      refine planE_eff rfl (by rfl) (fun K hK => ?_)
      obtain ⟨i0, hi0, hz0, hz1, hz2⟩ := info_parts file_info
      have hdl : ((L2.drop (i + 1)).map FRow.cells).length = L2.length - (i + 1) := by simp
      have htw : ((L2.take i).map FRow.cells).length + ((L2.drop (i + 1)).map FRow.cells).length ≤ 2000000 := by simp; omega
      refine op_appendS wq (.tmp 26) (.tmp 30) 34 46 (by rfl) Tryd.underlying34 hi0 hz0 hz1 hz2 rfl (by decide) w.heap.size (some ⟨b, 0, none⟩) (some ⟨b, (i + 1) * 2, none⟩) ca (ca - (i + 1)) ((L2.take i).map FRow.cells) ((L2.drop (i + 1)).map FRow.cells) (by rw [htl]; rfl) (by rw [hdl]; rfl) (by rw [List.map_take]; exact HOq.out.row.take i) (by rw [List.map_drop, show (i + 1) * 2 = 0 + (i + 1) * 2 from by omega]; exact HOq.out.row.rs.drop (i + 1)) (fun r hr => cells_len _ r hr) (by intro r hr v hv; obtain ⟨p, _, rfl⟩ := List.mem_map.1 hr; simp [FRow.cells] at hv; rcases hv with rfl | rfl <;> rfl) (by omega) (by omega) hBq.size ?_
      intro ys A' cap' w4 hys hy1 hy2 hrow hg hA
      have HF := Lib.hid (HFIN.out A' cap' w4 wq ys hys HOq.out hBq hrow hg)
      clear hw1 hw2 hw3 hw4 hw5 hys hy1 hy2 hrow hg hA HOq hBq HFIN hdl htw htl
      refine hK _ _ (by simp [owed, left] <;> (and_intros <;> first | trivial | assumption)) ?_
      clear hK K
      try simp only [List.getElem_toArray, List.getElem_cons_succ, List.getElem_cons_zero, Act.put, List.setIfInBounds_toArray, List.set_cons_zero, List.set_cons_succ]
      iterate 1 (refine planE_pure (v := ?_) rfl (by rfl) (fun w' => ?_) ?_; rotate_left; (focus (simp only [List.getElem_toArray, List.getElem_cons_succ, List.getElem_cons_zero]; go_simp; first | with_reducible rfl | (simp (disch := omega) only [if_pos, if_neg, dif_pos, Result.andThen_ok]; try with_reducible rfl) | skip)); try simp only [List.getElem_toArray, List.getElem_cons_succ, List.getElem_cons_zero, Act.put, List.setIfInBounds_toArray, List.set_cons_zero, List.set_cons_succ])
      refine planE_end ?_
      go_wp2_with fail
      go_ret
      exact HF.out
    · obtain rfl : ca = i + 1 := by omega
      have hle : L2.length ≤ i + 1 := hcap
      go_wp2_with fail
      refine wp_region_planE_gen (by kernel_rfl) [(0, none), (1, none), (2, none), (3, none), (4, none), (5, none), (6, none), (7, some [2, 6]), (8, none)] (by kernel_rfl) (by kernel_rfl) (by decide) ?_
      intro wq hwq
      have hbq : Below w3.heap.size w3 wq := by rw [hwq]; exact (Below.refl _ _).drew
      have hBq := hB3.trans (hbq.mono hB3.size)
      have HOq := Lib.hid (HO3.out.below hbq)
      have hw1 : IntKind.i64.wrap ((i : Int) + 1) = (i : Int) + 1 := IntWalk.i64_in _ (by omega)
      have hw2 : ((i : Int) + 1).toNat = i + 1 := by omega
      have hw3 : (i : Int) + 1 ≤ (L2.length : Int) := by omega
      have hw4 : (0 : Int) ≤ (i : Int) + 1 := by omega
      have hw5 : i ≤ i + 1 := by omega
      clear hwq hbq HO3 hB3 y0
      iterate 7 (refine planE_pure (v := ?_) rfl (by rfl) (fun w' => ?_) ?_; rotate_left; (focus (simp only [List.getElem_toArray, List.getElem_cons_succ, List.getElem_cons_zero]; go_simp; first | with_reducible rfl | (simp (disch := omega) only [if_pos, if_neg, dif_pos, Result.andThen_ok]; try with_reducible rfl) | skip)); try simp only [List.getElem_toArray, List.getElem_cons_succ, List.getElem_cons_zero, Act.put, List.setIfInBounds_toArray, List.set_cons_zero, List.set_cons_succ])
      refine planE_eff rfl (by rfl) (fun K hK => ?_)
      obtain ⟨i0, hi0, hz0, hz1, hz2⟩ := info_parts file_info
      have hdl : ((L2.drop (i + 1)).map FRow.cells).length = 0 := by simp; omega
      have htw : ((L2.take i).map FRow.cells).length + ((L2.drop (i + 1)).map FRow.cells).length ≤ 2000000 := by simp; omega
      refine op_appendS wq (.tmp 26) (.tmp 30) 34 46 (by rfl) Tryd.underlying34 hi0 hz0 hz1 hz2 rfl (by decide) w.heap.size (some ⟨b, 0, none⟩) (some ⟨b, 0, none⟩) (i + 1) 0 ((L2.take i).map FRow.cells) ((L2.drop (i + 1)).map FRow.cells) (by rw [htl]; rfl) (by rw [hdl]; rfl) (by rw [List.map_take]; exact HOq.out.row.take i) (by rw [List.drop_of_length_le (by omega)]; exact RS.nil) (fun r hr => cells_len _ r hr) (by intro r hr v hv; obtain ⟨p, _, rfl⟩ := List.mem_map.1 hr; simp [FRow.cells] at hv; rcases hv with rfl | rfl <;> rfl) (by omega) (by omega) hBq.size ?_
      intro ys A' cap' w4 hys hy1 hy2 hrow hg hA
      have HF := Lib.hid (HFIN.out A' cap' w4 wq ys hys HOq.out hBq hrow hg)
      clear hw1 hw2 hw3 hw4 hw5 hys hy1 hy2 hrow hg hA HOq hBq HFIN hdl htw htl
      refine hK _ _ (by simp [owed, left] <;> (and_intros <;> first | trivial | assumption)) ?_
      clear hK K
      try simp only [List.getElem_toArray, List.getElem_cons_succ, List.getElem_cons_zero, Act.put, List.setIfInBounds_toArray, List.set_cons_zero, List.set_cons_succ]
      iterate 1 (refine planE_pure (v := ?_) rfl (by rfl) (fun w' => ?_) ?_; rotate_left; (focus (simp only [List.getElem_toArray, List.getElem_cons_succ, List.getElem_cons_zero]; go_simp; first | with_reducible rfl | (simp (disch := omega) only [if_pos, if_neg, dif_pos, Result.andThen_ok]; try with_reducible rfl) | skip)); try simp only [List.getElem_toArray, List.getElem_cons_succ, List.getElem_cons_zero, Act.put, List.setIfInBounds_toArray, List.set_cons_zero, List.set_cons_succ])
      refine planE_end ?_
      go_wp2_with fail
      go_ret
      exact HF.out
end Go.Proofs.YthdmnajcphaekaaDoor
/- The reference's Do: the state of its walk while one file's bytes grow. -/
namespace Go.Proofs.YthdmnajcphaekaaDoor
open Go.RowKit

theorem setIdx_map {α β : Type} (f : α → β) (l : List α) (i : Nat) (a : α) : (l.set i a).map f = (l.map f).set i (f a) := by rw [List.map_set]
/-- While file i's bytes grow, apart from all others. -/
structure DoI (n : Nat) (w wr : World) (xb : Nat) (cv : Array Value) (i : Nat) (L : List FRow) (A : Option Addr) (c : Nat) (B : Option Addr) (cb : Nat) (lb : List UInt8) : Prop where
  below : Below n w wr
  size : n ≤ wr.heap.size
  blk : Blk wr xb 73 cv
  row : OR wr n 46 2 A c (L.map FRow.cells)
  oth : ∀ j (hj : j < L.length), j ≠ i → OB wr n L[j].A L[j].c L[j].data ∧ ∀ b, B.map (·.block) = some b → L[j].A.map (·.block) ≠ some b
  own : OB wr n B cb lb
  apart : L.Pairwise (fun p q => ∀ b, p.A.map (·.block) = some b → q.A.map (·.block) ≠ some b)
section
variable {n xb i c cb : Nat} {w wr w' : World} {cv : Array Value} {L : List FRow} {A B : Option Addr} {lb : List UInt8}
theorem DoI.start (h : FO n wr A c L) (hb : Below n w wr) (hs : n ≤ wr.heap.size) (hx : Blk wr xb 73 cv) (hi : i < L.length) : DoI n w wr xb cv i L A c L[i].A L[i].c L[i].data :=
  ⟨hb, hs, hx, h.row, fun j hj hne => ⟨h.dat _ (List.getElem_mem hj), fun b hB e => by
    rcases Nat.lt_or_gt_of_ne hne with h1 | h1
    · exact (List.pairwise_iff_getElem.1 h.apart) j i hj hi h1 b e hB
    · exact (List.pairwise_iff_getElem.1 h.apart) i j hi hj h1 b hB e⟩, h.dat _ (List.getElem_mem hi), h.apart⟩
theorem DoI.below' (h : DoI n w wr xb cv i L A c B cb lb) (hb : Below wr.heap.size wr w') : DoI n w w' xb cv i L A c B cb lb :=
  ⟨h.below.trans (hb.mono h.size), Nat.le_trans h.size hb.size, h.blk.kept hb, h.row.below hb, fun j hj hne => ⟨(h.oth j hj hne).1.below hb, (h.oth j hj hne).2⟩, h.own.below hb, h.apart⟩
theorem DoI.grow {B' : Option Addr} {cb' : Nat} {lb' : List UInt8} (h : DoI n w wr xb cv i L A c B cb lb) (ho : OB w' n B' cb' lb') (hg : wr.grownBy w' (B.map (·.block))) (hat : B'.map (·.block) = B.map (·.block) ∨ B'.map (·.block) = some wr.heap.size) :
    DoI n w w' xb cv i L A c B' cb' lb' := by
  refine ⟨h.below.grown hg h.size (fun b hb => (h.own.blk_lt b hb).1), Nat.le_trans h.size hg.size, h.blk.grown hg (h.own.ne_var h.blk (by decide)), h.row.grown_row hg (fun b hb e => h.own.ne_row h.row (by decide) b e hb), fun j hj hne => ?_, ho, h.apart⟩
  obtain ⟨h1, h2⟩ := h.oth j hj hne
  refine ⟨h1.grown_row hg h2, fun b hb e => ?_⟩
  rcases hat with h3 | h3
  · rw [h3] at hb; exact h2 b hb e
  · rw [h3] at hb
    injection hb with hb
    have := (h1.blk_lt b e).2
    omega
theorem DoI.store {b : Nat} {lb' : List UInt8} (h : DoI n w wr xb cv i L (some ⟨b, 0, none⟩) c B cb lb) (hi : i < L.length) (ho : OB wr n B cb lb') :
    FO n (wr.setCell ⟨b, i * 2 + 1, none⟩ (.slice B lb'.length cb)) (some ⟨b, 0, none⟩) c (L.set i ⟨L[i].name, B, cb, lb'⟩) ∧ Below n w (wr.setCell ⟨b, i * 2 + 1, none⟩ (.slice B lb'.length cb)) := by
  obtain ⟨h1, h2⟩ := h.row.stored (i := i) (r := L[i].cells) (by simp [hi]) (j := 1) (by decide) (.slice B lb'.length cb)
  rw [show (L.map FRow.cells).set i (L[i].cells.set 1 (.slice B lb'.length cb)) = (L.set i ⟨L[i].name, B, cb, lb'⟩).map FRow.cells from by rw [List.map_set]; rfl] at h1
  have hk : ∀ (A' : Option Addr) (c' : Nat) (l' : List UInt8), OB wr n A' c' l' → OB (wr.setCell ⟨b, i * 2 + 1, none⟩ (.slice B lb'.length cb)) n A' c' l' := fun A' c' l' ho => ho.grown_row h2 (fun k hk => by injection hk with hk; subst hk; exact ho.ne_row h.row (by decide) b rfl)
  refine ⟨⟨h1, fun p hp => ?_, ?_⟩, h.below.grown h2 h.size (fun k hk => by injection hk with hk; subst hk; exact (h.row.blk_lt b rfl).1)⟩
  · obtain ⟨j, hj, rfl⟩ := List.getElem_of_mem hp
    rw [List.length_set] at hj
    by_cases hji : i = j
    · subst hji
      rw [List.getElem_set_self]
      exact hk _ _ _ ho
    · rw [List.getElem_set_ne hji]
      exact hk _ _ _ (h.oth j hj (fun e => hji e.symm)).1
  · rw [List.pairwise_iff_getElem]
    intro j k hj hk hjk b' e1 e2
    rw [List.length_set] at hj hk
    by_cases hji : i = j
    · subst hji
      rw [List.getElem_set_self] at e1
      rw [List.getElem_set_ne (by omega)] at e2
      exact (h.oth k hk (by omega)).2 b' e1 e2
    · rw [List.getElem_set_ne hji] at e1
      by_cases hki : i = k
      · subst hki
        rw [List.getElem_set_self] at e2
        exact (h.oth j hj (by omega)).2 b' e2 e1
      · rw [List.getElem_set_ne hki] at e2
        exact (List.pairwise_iff_getElem.1 h.apart) j k hj hk hjk b' e1 e2
theorem DoI.cell_some {b : Nat} (h : DoI n w wr xb cv i L (some ⟨b, 0, none⟩) c B cb lb) (hi : i < L.length) : wr.cell? ⟨b, i * 2 + 1, none⟩ ≠ none := by
  have := h.row.rs.get (i := i) (cs := L[i].cells) (by simp [hi]) 1 rfl
  rw [Nat.zero_add] at this
  rw [this]
  simp
end
def slen : Value → Nat
  | .slice _ n _ => n
  | _ => 0
theorem resize_grow (old : List UInt8) (m : Nat) (h : old.length ≤ m) : resizeD old m ++ [0] = resizeD old (m + 1) := by
  unfold resizeD
  rw [List.take_of_length_le h, List.take_of_length_le (by omega), List.append_assoc, ← List.replicate_succ', show m + 1 - old.length = m - old.length + 1 from by omega]
theorem resize_self (old : List UInt8) : resizeD old old.length = old := by
  unfold resizeD; simp
theorem resize_take (old : List UInt8) (m n : Nat) (h : n ≤ m) : (resizeD old m).take n = resizeD old n := by
  unfold resizeD
  rw [List.take_append, List.take_take, Nat.min_eq_left h, List.take_replicate, List.length_take]
  congr 2
  omega
/-- The first k of d laid over b at a place. -/
def ovr (b : List UInt8) (off : Nat) (d : List UInt8) (k : Nat) : List UInt8 := b.take off ++ d.take k ++ b.drop (off + k)
theorem ovr_zero (b : List UInt8) (off : Nat) (d : List UInt8) : ovr b off d 0 = b := by unfold ovr; simp
theorem ovr_len (b : List UInt8) (off : Nat) (d : List UInt8) (k : Nat) (hk : k ≤ d.length) (h : off + d.length ≤ b.length) : (ovr b off d k).length = b.length := by
  unfold ovr
  rw [List.length_append, List.length_append, List.length_take, List.length_take, List.length_drop]
  omega
theorem ovr_step (b : List UInt8) (off : Nat) (d : List UInt8) (k : Nat) (hk : k < d.length) (h : off + d.length ≤ b.length) : (ovr b off d k).set (off + k) d[k] = ovr b off d (k + 1) := by
  unfold ovr
  have h1 : (b.take off ++ d.take k).length = off + k := by rw [List.length_append, List.length_take, List.length_take]; omega
  rw [List.set_append_right _ _ (by omega), h1, Nat.sub_self, List.drop_eq_getElem_cons (show off + k < b.length by omega), List.set_cons_zero, List.take_succ_eq_append_getElem hk]
  simp only [List.append_assoc, List.cons_append, List.nil_append, Nat.add_assoc]
theorem ovr_all (old d : List UInt8) (off : Nat) : ovr (resizeD old (max old.length (off + d.length))) off d d.length = putD old off d := by
  unfold ovr putD
  rw [List.take_of_length_le (Nat.le_refl _)]
theorem DoI.set {n xb i c cb : Nat} {w wr : World} {cv : Array Value} {L : List FRow} {A B : Option Addr} {lb : List UInt8} {k : Nat} (h : DoI n w wr xb cv i L A c B cb lb) (hk : k < lb.length) : ∃ g, B = some ⟨g, 0, none⟩ ∧
    wr.cell? ⟨g, k, none⟩ = some (.int .u8 (lb[k].toNat : Int)) ∧ wr.frozen? ⟨g, k, none⟩ = false ∧
    ∀ (y : UInt8) (V : Int), V = (y.toNat : Int) → DoI n w (wr.setCell ⟨g, k, none⟩ (.int .u8 V)) xb cv i L A c B cb (lb.set k y) := by
  obtain ⟨g, rfl, _, _, h1, h2, h3⟩ := h.own.store hk
  refine ⟨g, rfl, h1, h2, fun y V hV => ?_⟩
  obtain ⟨h4, h5⟩ := h3 y V hV
  exact h.grow h4 h5 (.inl rfl)
theorem fat_name {F : FS} {n : Nm} (h : fat F n = true) : (F[fpos F n]'(fat_lt h)).1 = n := by
  induction F with
  | nil => simp [fat] at h
  | cons p r ih =>
    by_cases hp : p.1 < n
    · have e2 : fpos (p :: r) n = fpos r n + 1 := by rw [fpos, if_pos hp]
      have h' : fat r n = true := by rw [fat, if_pos hp] at h; exact h
      have := ih h'
      simp only [e2, List.getElem_cons_succ]
      exact this
    · have e2 : fpos (p :: r) n = 0 := by rw [fpos, if_neg hp]
      rw [fat, if_neg hp] at h
      simp only [e2, List.getElem_cons_zero]
      simpa using h
theorem apart_ins {L : List FRow} {name : Nm} (h : L.Pairwise (fun p q => ∀ b, p.A.map (·.block) = some b → q.A.map (·.block) ≠ some b)) (i : Nat) :
    (L.take i ++ ⟨name, none, 0, []⟩ :: L.drop i : List FRow).Pairwise (fun p q => ∀ b, p.A.map (·.block) = some b → q.A.map (·.block) ≠ some b) := by
  have h' := h
  rw [← List.take_append_drop i L, List.pairwise_append] at h'
  refine List.pairwise_append.2 ⟨h'.1, List.pairwise_cons.2 ⟨fun q _ b hb => by simp at hb, h'.2.1⟩, fun p hp q hq => ?_⟩
  rcases List.mem_cons.1 hq with rfl | hq
  · intro b _ e; simp at e
  · exact h'.2.2 p hp q hq
/-- What stands behind the finding, or the making, of the file. -/
def Found (L : List FRow) (name : Nm) (old : List UInt8) (i : Nat) (M : List FRow) : Prop :=
  ∃ h : i < M.length, M[i].data = old ∧ ∀ B cb lb, (M.set i ⟨M[i].name, B, cb, lb⟩).map FRow.val = fset (L.map FRow.val) name lb
theorem found_there {L M : List FRow} {name : Nm} (hr : Rising (L.map FRow.val)) (hv : M.map FRow.val = L.map FRow.val) (hat : fat (L.map FRow.val) name = true) : Found L name ((fget (L.map FRow.val) name).getD []) (fpos (L.map FRow.val) name) M := by
  have hlt := fat_lt hat
  have hlen : M.length = L.length := by have := congrArg List.length hv; simpa using this
  have hlt' : fpos (L.map FRow.val) name < M.length := by rw [hlen]; simpa using hlt
  have hM : (L.map FRow.val)[fpos (L.map FRow.val) name] = M[fpos (L.map FRow.val) name].val := by
    have : (M.map FRow.val)[fpos (L.map FRow.val) name]'(by rw [List.length_map]; exact hlt') = M[fpos (L.map FRow.val) name].val := by simp
    rw [← this]
    congr 1
    exact hv.symm
  have hfg := fget_fat hr name
  rw [dif_pos hat, hM] at hfg
  refine ⟨hlt', by rw [hfg]; rfl, fun B cb lb => ?_⟩
  have hn : M[fpos (L.map FRow.val) name].name = name := by
    have h3 := fat_name hat
    rw [hM] at h3
    exact h3
  rw [List.map_set, hv, fset_eq, hat, if_pos rfl, List.set_eq_take_append_cons_drop, if_pos hlt, hn]
  rfl
theorem found_new {L M : List FRow} {name : Nm} (hr : Rising (L.map FRow.val)) (hv : M.map FRow.val = L.map FRow.val) (hat : fat (L.map FRow.val) name = false) :
    Found L name ((fget (L.map FRow.val) name).getD []) (fpos (L.map FRow.val) name) (M.take (fpos (L.map FRow.val) name) ++ ⟨name, none, 0, []⟩ :: M.drop (fpos (L.map FRow.val) name)) := by
  have hle := fpos_le (L.map FRow.val) name
  have hlen : M.length = L.length := by have := congrArg List.length hv; simpa using this
  have htl : (M.take (fpos (L.map FRow.val) name)).length = fpos (L.map FRow.val) name := by rw [List.length_take, hlen, Nat.min_eq_left (by simpa using hle)]
  have hfg := fget_fat hr name
  rw [dif_neg (by rw [hat]; simp)] at hfg
  rw [hfg]
  have hfs : ∀ lb, fset (L.map FRow.val) name lb = (L.map FRow.val).take (fpos (L.map FRow.val) name) ++ (name, lb) :: (L.map FRow.val).drop (fpos (L.map FRow.val) name) := fun lb => by
    rw [fset_eq, hat]; simp
  generalize fpos (L.map FRow.val) name = i at *
  have h0 : i < (M.take i ++ ⟨name, none, 0, []⟩ :: M.drop i : List FRow).length := by rw [List.length_append, htl]; simp
  have hg : (M.take i ++ ⟨name, none, 0, []⟩ :: M.drop i : List FRow)[i] = ⟨name, none, 0, []⟩ := by
    rw [List.getElem_append_right (by omega)]
    simp [htl]
  refine ⟨h0, by rw [hg]; rfl, fun B cb lb => ?_⟩
  rw [hfs, hg, List.set_append_right _ _ (by omega), htl, Nat.sub_self, List.set_cons_zero, List.map_append, List.map_cons, List.map_take, List.map_drop, hv]
  rfl
end Go.Proofs.YthdmnajcphaekaaDoor
