/- Contract of package disk's Unsure. -/
import Derived.Test.YthdmnajcphaekaaDoorDiskN
import Derived.Test.YthdmnajcphaekaaDoorRowX
namespace Go.Proofs.YthdmnajcphaekaaDoor
open Go.RowKit

theorem write_size : (Tryd.prog.info? 73).map (·.size) = some 4 := by kernel_rfl
theorem below_row (w : World) (cs ds : Array Value) (T : TypeId) : Below w.heap.size w ((w.alloc (.cells cs T)).setRow w.heap.size ds) ∧ Blk ((w.alloc (.cells cs T)).setRow w.heap.size ds) w.heap.size T ds := by
  have h1 : Below w.heap.size w (w.alloc (.cells cs T)) := (Below.refl _ _).alloc (Nat.le_refl _) _
  exact ⟨⟨h1.os, h1.tape, h1.output, by simp, fun j hj => (Go.setRow_other _ _ _ _ (by omega)).trans (h1.block j hj)⟩, (Blk.new w cs T).setRow ds⟩
theorem OR.wcells {w : World} {n c k : Nat} {B : Option Addr} {U : List (Wr × Option Addr × Nat)} (h : OR w n 73 4 B c (U.map wrRow)) (hk : k < U.length) : ∃ b, B = some ⟨b, 0, none⟩ ∧ b < w.heap.size ∧ ∀ w' : World, w'.heap[b]? = w.heap[b]? → w'.cell? ⟨b, k * 4, none⟩ = some (.int .i64 U[k].1.kind) ∧ w'.cell? ⟨b, k * 4 + 1, none⟩ = some (.string ⟨U[k].1.name.toArray⟩) ∧ w'.cell? ⟨b, k * 4 + 2, none⟩ = some (.int .i64 (U[k].1.off : Int)) ∧ w'.cell? ⟨b, k * 4 + 3, none⟩ = some (.slice U[k].2.1 U[k].1.data.length U[k].2.2) := by
  obtain ⟨b, rfl, _, hb⟩ := h.head' (by simp; omega)
  refine ⟨b, rfl, hb, fun w' hw => ?_⟩
  have hi : (U.map wrRow)[k]? = some (wrRow U[k]) := by simp [hk]
  have h0 := h.rs.get hi 0 rfl
  have h1 := h.rs.get hi 1 rfl
  have h2 := h.rs.get hi 2 rfl
  have h3 := h.rs.get hi 3 rfl
  rw [Nat.zero_add] at h0 h1 h2 h3
  have e : ∀ o, w'.cell? ⟨b, o, none⟩ = w.cell? ⟨b, o, none⟩ := fun o => World.cell?_of_block (w := w) (a := ⟨b, o, none⟩) hw
  exact ⟨(e _).trans h0, (e _).trans h1, (e _).trans h2, (e _).trans h3⟩
/-- Changes of the call's own. -/
structure UO (n : Nat) (w : World) (A : Option Addr) (c : Nat) (U : List (Wr × Option Addr × Nat)) : Prop where
  row : OR w n 73 4 A c (U.map wrRow)
  dat : ∀ p ∈ U, OB w n p.2.1 p.2.2 p.1.data
theorem UO.below {n c : Nat} {w w' : World} {A : Option Addr} {U : List (Wr × Option Addr × Nat)} (h : UO n w A c U) (hb : Below w.heap.size w w') : UO n w' A c U := ⟨h.row.below hb, fun p hp => (h.dat p hp).below hb⟩
def NewU (w : World) (us : List Wr) (e : Ending) (w' : World) : Prop :=
  ∃ (A : Option Addr) (c : Nat) (U : List (Wr × Option Addr × Nat)), e = .returned (.slice A U.length c) ∧ Hid (U.map Prod.fst = us) ∧ UO w.heap.size w' A c U ∧ Below w.heap.size w w'
section
variable {S : Nat → Prop} {w w' : World} {g mf ms : Nat} {A : Option Addr} {c : Nat} {D : DSt}
set_option maxRecDepth 20000 in
set_option maxHeartbeats 4000000 in
theorem diskUnsureC (h : DI S w g D) (hcnt : D.cnt ≤ 1000000) : Calls Tryd.prog 25 #[.pointer (some ⟨g, 0, none⟩)] w (NewU w D.unsure) := by
  obtain ⟨mf, ms, A, c, h⟩ := h
  obtain ⟨Us, hU1, hU2, _, hU4⟩ := h.ui
  have hul : Us.length ≤ 1000000 := by
    have e1 := congrArg List.length hU1
    rw [List.length_map] at e1
    unfold DSt.cnt at hcnt
    omega
  have hok : ∀ u ∈ D.unsure, u.ok := h.ok.2.2.2
  have c2' := h.blk.cell 2 rfl
  rw [show D.unsure.length = Us.length from by rw [← hU1, List.length_map]] at c2'
  have HU1 := Lib.hid hU1
  have HU2 := Lib.hid hU2
  have HU4 := Lib.hid hU4
  have HOK := Lib.hid hok
  clear h hU1 hU2 hU4 hcnt hok
  go_enter Tryd.func25, Tryd.ntmps25
  go_wp2_with fail
  go_loopw [3, 13] (fun s3 s13 wr => ∃ (k : Nat) (A' : Option Addr) (c' : Nat) (U' : List (Wr × Option Addr × Nat)), k ≤ Us.length ∧ s13 = .int .i64 (k : Int) ∧ s3 = .slice A' U'.length c' ∧ U'.length ≤ k ∧ Hid (U'.map Prod.fst = (Us.take k).map Prod.fst) ∧ Hid (UO w.heap.size wr A' c' U') ∧ Below w.heap.size w wr) (fun _ s13 _ => Us.length - (intOf s13).toNat)
  case atStart => exact ⟨0, none, 0, [], Nat.zero_le _, rfl, rfl, Nat.zero_le _, Lib.hid rfl, Lib.hid ⟨OR.nil _ _ _ _, by simp⟩, Below.refl _ _⟩
  case round =>
    obtain ⟨k, A', c', U', hk, rfl, rfl, hl', hv, HO, hB⟩ := hrel
    clear c2'
    by_cases hlt : k < Us.length
    · obtain ⟨b, hBe, hbl, hcs⟩ := HU2.out.wcells hlt
      subst hBe
      obtain ⟨d0, d1, d2, d3⟩ := hcs wr (hB.block b hbl)
      have HRB := Lib.hid (((HU4.out _ (List.getElem_mem hlt)).1.rb).below hB)
      have hdl : Us[k].1.data.length ≤ 4194304 := by
        have := (HOK.out Us[k].1 (by rw [← HU1.out]; exact List.mem_map.2 ⟨_, List.getElem_mem hlt, rfl⟩)).2
        omega
      have HV : Hid (∀ B cb, (U' ++ [(Us[k].1, B, cb)]).map Prod.fst = (Us.take (k + 1)).map Prod.fst) := Lib.hid fun B cb => by
        rw [List.take_succ_eq_append_getElem hlt, List.map_append, List.map_append, hv.out]; rfl
      have heta : Us[k].1 = ⟨Us[k].1.kind, Us[k].1.name, Us[k].1.off, Us[k].1.data⟩ := rfl
      rw [heta] at HV
      generalize Us[k].1.kind = kk at *
      generalize Us[k].1.name = kn at *
      generalize Us[k].1.off = ko at *
      generalize Us[k].1.data = kd at *
      generalize Us[k].2.1 = kA at *
      generalize Us[k].2.2 = kc at *
      have hlt1 : k + 1 ≤ Us.length := hlt
      have HZ := Lib.hid (Blk.new wr #[.int .i64 0, .string ⟨#[]⟩, .int .i64 0, .slice none 0 0] 73)
      obtain ⟨hba, hxa⟩ := below_row wr #[.int .i64 0, .string ⟨#[]⟩, .int .i64 0, .slice none 0 0] #[.int .i64 kk, .string ⟨kn.toArray⟩, .int .i64 (ko : Int), .slice kA kd.length kc] 73
      have HBA := Lib.hid hba
      have HXA := Lib.hid hxa
      have HO2 := Lib.hid (HO.out.below hba)
      have HUL : Hid (∀ b, (∃ p ∈ U', p.2.1.map (·.block) = some b) ∨ A'.map (·.block) = some b → b < wr.heap.size) := Lib.hid fun b hb => by
        rcases hb with ⟨p, hp, hb⟩ | hb
        · exact ((HO.out.dat p hp).blk_lt b hb).2
        · exact (HO.out.row.blk_lt b hb).2
      have hB2 := hB.trans (hba.mono hB.size)
      have CL := Lib.hid (cloneB' kA kc kd _ (HRB.out.below hba) (by omega))
      have HXL : Hid (wr.heap.size < ((wr.alloc (.cells #[.int .i64 0, .string ⟨#[]⟩, .int .i64 0, .slice none 0 0] 73)).setRow wr.heap.size #[.int .i64 kk, .string ⟨kn.toArray⟩, .int .i64 (ko : Int), .slice kA kd.length kc]).heap.size) := Lib.hid hxa.lt
      have hwr := hB.size
      clear heta hv HO hB hcs hba hxa
      go_wp2_with (refine wpList_store_row rfl 73 (.tmp 5) (.tmp 16) rfl wr.heap.size #[.int .i64 kk, .string ⟨kn.toArray⟩, .int .i64 (ko : Int), .slice kA kd.length kc] rfl rfl _ _ HZ.out write_size rfl (by simp [Value.oneCell']) ?_; have x3 := HXA.out.cell 3 rfl)
      with_reducible refine CL.out.mono ?_
      rintro e w4 ⟨A8, c8, rfl, ho8, hb8⟩
      have hx4 := HXA.out.kept hb8
      have HO4 := Lib.hid (HO2.out.below hb8)
      have hB4 := hB2.trans (hb8.mono hB2.size)
      have hx5 := hx4.setCell 3 (.slice A8 kd.length c8)
      have hsz8 : wr.heap.size < w4.heap.size := Nat.lt_of_lt_of_le HXL.out hb8.size
      have ho8' := ho8.base_le (Nat.le_of_lt HXL.out)
      have HO5 : Hid (OB (w4.setCell ⟨wr.heap.size, 3, none⟩ (.slice A8 kd.length c8)) w.heap.size A8 c8 kd) := Lib.hid ((ho8'.base_le hwr).of_block fun b hb => Below.heap_setCell _ _ _ b (by rintro rfl; exact ho8.ne_var hx4 (by decide) hb))
      have hUm : ∀ b, (∃ p ∈ U', p.2.1.map (·.block) = some b) ∨ A'.map (·.block) = some b → b < wr.heap.size := HUL.out
      have HUO5 : Hid (UO w.heap.size (w4.setCell ⟨wr.heap.size, 3, none⟩ (.slice A8 kd.length c8)) A' c' U') := Lib.hid ⟨HO4.out.row.of_block fun b hb => Below.heap_setCell _ _ _ b (by have := hUm b (.inr hb); simp only; omega), fun p hp => (HO4.out.dat p hp).of_block fun b hb => Below.heap_setCell _ _ _ b (by have := hUm b (.inl ⟨p, hp, hb⟩); simp only; omega)⟩
      have HB5 : Hid (Below w.heap.size w (w4.setCell ⟨wr.heap.size, 3, none⟩ (.slice A8 kd.length c8))) := Lib.hid (hB4.setCell (p := ⟨wr.heap.size, 3, none⟩) hwr _)
      have q3 := hx4.free 3
      have x0 := hx4.cell 0 rfl
      have x1 := hx4.cell 1 rfl
      have x2 := hx4.cell 2 rfl
      have x3' := hx4.cell 3 rfl
      have HX5 : Hid (Blk (w4.setCell ⟨wr.heap.size, 3, none⟩ (.slice A8 kd.length c8)) wr.heap.size 73 #[.int .i64 kk, .string ⟨kn.toArray⟩, .int .i64 (ko : Int), .slice A8 kd.length c8]) := Lib.hid hx5
      clear CL HO2 hB2 HRB HBA HXA HZ ho8 ho8' hb8 hx5 hB4 HO4 hUm x3 hx4 d0 d1 d2 d3
      have hba5 : Below (w4.setCell ⟨wr.heap.size, 3, none⟩ (.slice A8 kd.length c8)).heap.size (w4.setCell ⟨wr.heap.size, 3, none⟩ (.slice A8 kd.length c8)) ((w4.setCell ⟨wr.heap.size, 3, none⟩ (.slice A8 kd.length c8)).alloc (.cells #[.int .i64 kk, .string ⟨kn.toArray⟩, .int .i64 (ko : Int), .slice A8 kd.length c8] 73)) := (Below.refl _ _).alloc (Nat.le_refl _) _
      have HUA := Lib.hid (HUO5.out.below hba5)
      have HOA := Lib.hid (HO5.out.below hba5)
      have HBA5 := Lib.hid (HB5.out.trans (hba5.mono HB5.out.size))
      have HL5 : Hid (Blk ((w4.setCell ⟨wr.heap.size, 3, none⟩ (.slice A8 kd.length c8)).alloc (.cells #[.int .i64 kk, .string ⟨kn.toArray⟩, .int .i64 (ko : Int), .slice A8 kd.length c8] 73)) w4.heap.size 73 #[.int .i64 kk, .string ⟨kn.toArray⟩, .int .i64 (ko : Int), .slice A8 kd.length c8]) := Lib.hid (by
        have := Blk.new (w4.setCell ⟨wr.heap.size, 3, none⟩ (.slice A8 kd.length c8)) #[.int .i64 kk, .string ⟨kn.toArray⟩, .int .i64 (ko : Int), .slice A8 kd.length c8] 73
        rw [show (w4.setCell ⟨wr.heap.size, 3, none⟩ (.slice A8 kd.length c8)).heap.size = w4.heap.size from by simp] at this
        exact this)
      have HAP := HV.out A8 c8
      have HAPP := Lib.hid HAP
      clear HUO5 HO5 HB5 HX5 hba5 HAP HV
      obtain ⟨i0, hi0, hz0, hz1, hz2⟩ := info_parts write_info
      go_wp2_with (at_builtin; refine wp_appendS _ rfl (.tmp 21) (.tmp 23) 40 73 rfl Tryd.underlying40 hi0 hz0 hz1 hz2 rfl (by decide) w.heap.size A' (some ⟨w4.heap.size, 0, none⟩) c' 1 (U'.map wrRow) [[.int .i64 kk, .string ⟨kn.toArray⟩, .int .i64 (ko : Int), .slice A8 kd.length c8]] (by simp; rfl) (by simp; rfl) HUA.out.row (RS.lit HL5.out) (by simp) (by simp [Value.oneCell']) (by simp; omega) (by simp; omega) HBA5.out.size ?_; intro ys A9 c9 w9 hys hy1 hy2 hrow hg9 hA9)
      have HYS : Hid (ys = (U' ++ [((⟨kk, kn, ko, kd⟩, A8, c8) : Wr × Option Addr × Nat)]).map wrRow) := Lib.hid (by rw [hys.out, List.map_append]; rfl)
      have HU9 : Hid (UO w.heap.size w9 A9 c9 (U' ++ [((⟨kk, kn, ko, kd⟩, A8, c8) : Wr × Option Addr × Nat)])) := Lib.hid ⟨by rw [← HYS.out]; exact hrow, fun p hp => by
        rcases List.mem_append.1 hp with hp | hp
        · exact (HUA.out.dat p hp).grown_row hg9 ((HUA.out.dat p hp).ne_row HUA.out.row (by decide))
        · rw [List.mem_singleton] at hp
          subst hp
          exact HOA.out.grown_row hg9 (HOA.out.ne_row HUA.out.row (by decide))⟩
      have hB9 := HBA5.out.grown hg9 HBA5.out.size (fun b hb => (HUA.out.row.blk_lt b hb).1)
      have HYL : Hid (ys.length = (U' ++ [((⟨kk, kn, ko, kd⟩, A8, c8) : Wr × Option Addr × Nat)]).length) := Lib.hid (by rw [HYS.out, List.length_map])
      have hyl : (U' ++ [((⟨kk, kn, ko, kd⟩, A8, c8) : Wr × Option Addr × Nat)]).length ≤ k + 1 := by simp; omega
      clear hys hy1 hy2 hrow hg9 hA9 HUA HOA HBA5 HL5
      rw [HYL.out]
      generalize (U' ++ [((⟨kk, kn, ko, kd⟩, A8, c8) : Wr × Option Addr × Nat)]) = U9 at *
      go_roundw
      case rel => exact ⟨k + 1, A9, c9, U9, hlt1, by go_num, rfl, hyl, HAPP, HU9, hB9⟩
      case measure => simp [intOf]; omega
    · obtain rfl : k = Us.length := by omega
      have HF : Hid (NewU w D.unsure (.returned (.slice A' U'.length c')) wr) := Lib.hid ⟨A', c', U', rfl, Lib.hid (by rw [hv.out, List.take_of_length_le (Nat.le_refl _), HU1.out]), HO.out, hB⟩
      clear hv HO hB
      go_wp2_with fail
      go_ret
      exact HF.out
end
end Go.Proofs.YthdmnajcphaekaaDoor
