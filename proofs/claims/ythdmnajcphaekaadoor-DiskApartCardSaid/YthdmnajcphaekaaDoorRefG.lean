/- RefG: put together by merge.py of: RefDG, RefDH, RefDI, RefDJ. -/
import Derived.Test.YthdmnajcphaekaaDoorRefDE
import Derived.Test.YthdmnajcphaekaaDoorRefDF
import Derived.Test.YthdmnajcphaekaaDoorDskE
/- The reference's disk in memory; Do, all kinds; Files, burns. -/
namespace Go.Proofs.YthdmnajcphaekaaDoor
open Go.RowKit

theorem refDo (X : Option Addr) (cx : Nat) (L : List FRow) (w : World) (c : Wr) (Y : Option Addr) (cy : Nat) (h : FRd w X L) (hY : RB w Y c.data) (hr : Rising (L.map FRow.val)) (hl : L.length ≤ 1900000) (hd : ∀ p ∈ L, p.data.length ≤ 140737488355328) (ho : c.off ≤ 4194304) (hcd : c.data.length ≤ 140737488355328) (hk : c.kind = 1 ∨ c.kind = 2 ∨ c.kind = 3) :
    Calls Tryd.prog 35 #[.slice X L.length cx, .agg (wrV c Y cy)] w (NewF w (doF (L.map FRow.val) c)) := by
  rcases hk with hk | hk | hk
  · exact refDo1 X cx L w c Y cy h hY hr hl hd ho hcd hk
  · exact refDo2 X cx L w c Y cy h hY hr hl hd ho hcd hk
  · exact refDo3 X cx L w c Y cy h hr hl hd hk

/-- Files in memory that are never written: where they lie. -/
structure FS_ (S : Nat → Prop) (w : World) (A : Option Addr) (L : List FRow) : Prop where
  rd : FRd w A L
  row : 0 < L.length → ∀ b, A.map (·.block) = some b → S b
  dat : ∀ p ∈ L, 0 < p.data.length → ∀ b, p.A.map (·.block) = some b → S b
/-- Changes in memory: the row is the disk's own, their bytes are never written. -/
structure US_ (M S : Nat → Prop) (w : World) (B : Option Addr) (c : Nat) (U : List (Wr × Option Addr × Nat)) : Prop where
  row : OR w 0 73 4 B c (U.map wrRow)
  own : ∀ b, B.map (·.block) = some b → M b
  rb : ∀ p ∈ U, RB w p.2.1 p.1.data
  dat : ∀ p ∈ U, 0 < p.1.data.length → ∀ b, p.2.1.map (·.block) = some b → S b
  cap : ∀ p ∈ U, p.1.data.length ≤ p.2.2
structure RR (M S : Nat → Prop) (w : World) (g : Nat) (A : Option Addr) (c : Nat) (L : List FRow) (B : Option Addr) (cu : Nat) (U : List (Wr × Option Addr × Nat)) (D : DSt) : Prop where
  blk : Blk w g 42 #[.slice A L.length c, .slice B U.length cu, .int .i64 D.room, .int .i64 D.fuse, .bool D.down]
  sure : FS_ S w A L
  uns : US_ M S w B cu U
  mg : M g
  vs : L.map FRow.val = D.sure
  vu : U.map Prod.fst = D.unsure
  ris : Rising D.sure
  ok : D.ok
  dis : ∀ b, S b → ¬ M b
  bnd : ∀ b, M b ∨ S b → b < w.heap.size
/-- The reference's disk in memory: M may be written, S is never. -/
def RI (M S : Nat → Prop) (w : World) (g : Nat) (D : DSt) : Prop := ∃ A c L B cu U, RR M S w g A c L B cu U D

section
variable {M S M' S' R : Nat → Prop} {w w' : World} {g : Nat} {A B : Option Addr} {c cu : Nat} {L : List FRow} {U : List (Wr × Option Addr × Nat)} {D : DSt}
theorem RB.of_block {A : Option Addr} {l : List UInt8} (h : RB w A l) (hs : w.heap.size ≤ w'.heap.size) (hk : 0 < l.length → ∀ b, A.map (·.block) = some b → b < w.heap.size → w'.heap[b]? = w.heap[b]?) : RB w' A l :=
  h.keep hs fun b off h0 e hlt j => World.cell?_of_block (w := w) (a := ⟨b, off + j, none⟩) (hk h0 b (by rw [e]; rfl) hlt)
theorem RS.of_block {X : Option Addr} {k : Nat} {L : List (List Value)} (h : RS w X k L) (hs : w.heap.size ≤ w'.heap.size) (hk : 0 < L.length → ∀ b, X.map (·.block) = some b → b < w.heap.size → w'.heap[b]? = w.heap[b]?) : RS w' X k L := by
  refine ⟨fun h0 => ?_⟩
  obtain ⟨b, off, rfl, hb, hc⟩ := h.at_ h0
  refine ⟨b, off, rfl, by omega, fun i cs hi j v hj => ?_⟩
  rw [← hc i cs hi j v hj]
  exact World.cell?_of_block (w := w) (a := ⟨b, off + i * k + j, none⟩) (hk h0 b rfl hb)
theorem FS_.of_blocks (h : FS_ S w A L) (hs : w.heap.size ≤ w'.heap.size) (hk : ∀ b, b < w.heap.size → S b → w'.heap[b]? = w.heap[b]?) : FS_ S w' A L :=
  ⟨⟨h.rd.1.of_block hs fun h0 b hb hlt => hk b hlt (h.row (by simpa using h0) b hb), fun p hp => (h.rd.2 p hp).of_block hs fun h0 b hb hlt => hk b hlt (h.dat p hp h0 b hb)⟩, h.row, h.dat⟩
theorem US_.of_blocks (h : US_ M S w B cu U) (hs : w.heap.size ≤ w'.heap.size) (hk : ∀ b, b < w.heap.size → M b ∨ S b → w'.heap[b]? = w.heap[b]?) : US_ M S w' B cu U :=
  ⟨h.row.of_block fun b hb => hk b (h.row.blk_lt b hb).2 (.inl (h.own b hb)), h.own, fun p hp => (h.rb p hp).of_block hs fun h0 b hb hlt => hk b hlt (.inr (h.dat p hp h0 b hb)), h.dat, h.cap⟩
theorem RR.of_blocks (h : RR M S w g A c L B cu U D) (hs : w.heap.size ≤ w'.heap.size) (hk : ∀ b, b < w.heap.size → M b ∨ S b → w'.heap[b]? = w.heap[b]?) : RR M S w' g A c L B cu U D :=
  ⟨by unfold Blk; rw [hk g h.blk.lt (.inl h.mg)]; exact h.blk, h.sure.of_blocks hs fun b hb hS => hk b hb (.inr hS), h.uns.of_blocks hs hk, h.mg, h.vs, h.vu, h.ris, h.ok, h.dis, fun b hb => Nat.lt_of_lt_of_le (h.bnd b hb) hs⟩
theorem RR.below (h : RR M S w g A c L B cu U D) (hb : Below w.heap.size w w') : RR M S w' g A c L B cu U D := h.of_blocks hb.size fun b hlt _ => hb.block b hlt
theorem RR.mods (h : RR M S w g A c L B cu U D) (k : Mods R w w') (hd : ∀ b, b < w.heap.size → M b ∨ S b → ¬ R b) : RR M S w' g A c L B cu U D := h.of_blocks k.size fun b hlt hb => k.block b hlt (hd b hlt hb)
theorem RI.mods (h : RI M S w g D) (k : Mods R w w') (hd : ∀ b, b < w.heap.size → M b ∨ S b → ¬ R b) : RI M S w' g D := by
  obtain ⟨A, c, L, B, cu, U, h⟩ := h
  exact ⟨A, c, L, B, cu, U, h.mods k hd⟩
theorem RI.below (h : RI M S w g D) (hb : Below w.heap.size w w') : RI M S w' g D := by
  obtain ⟨A, c, L, B, cu, U, h⟩ := h
  exact ⟨A, c, L, B, cu, U, h.below hb⟩
theorem FRd.len_lt (h : FRd w A L) (h0 : 0 < L.length) : ∀ b, A.map (·.block) = some b → b < w.heap.size := by
  intro b hb
  obtain ⟨b', off, rfl, hlt, _⟩ := h.1.at_ (by simpa using h0)
  have : b' = b := by simpa using hb
  omega
theorem FS_.mono (h : FS_ S w A L) (hS : ∀ b, b < w.heap.size → S b → S' b) : FS_ S' w A L :=
  ⟨h.rd, fun h0 b hb => hS b (h.rd.len_lt h0 b hb) (h.row h0 b hb), fun p hp h0 b hb => hS b ((h.rd.2 p hp).blk_lt h0 b hb) (h.dat p hp h0 b hb)⟩
theorem US_.mono (h : US_ M S w B cu U) (hM : ∀ b, b < w.heap.size → M b → M' b) (hS : ∀ b, b < w.heap.size → S b → S' b) : US_ M' S' w B cu U :=
  ⟨h.row, fun b hb => hM b (h.row.blk_lt b hb).2 (h.own b hb), h.rb, fun p hp h0 b hb => hS b ((h.rb p hp).blk_lt h0 b hb) (h.dat p hp h0 b hb), h.cap⟩
/-- A store into the disk's own variable. -/
theorem RR.var {D' : DSt} {w' : World} (h : RR M S w g A c L B cu U D) (hs : w.heap.size ≤ w'.heap.size) (hk : ∀ b, b ≠ g → w'.heap[b]? = w.heap[b]?) (hb : Blk w' g 42 #[.slice A L.length c, .slice B U.length cu, .int .i64 D'.room, .int .i64 D'.fuse, .bool D'.down]) (h1 : D'.sure = D.sure) (h2 : D'.unsure = D.unsure) (hok : D'.ok) : RR M S w' g A c L B cu U D' :=
  ⟨hb, h.sure.of_blocks hs fun b _ hS => hk b (by rintro rfl; exact h.dis _ hS h.mg), ⟨h.uns.row.of_block fun b hx => hk b (by rintro rfl; exact h.uns.row.ne_var h.blk (by decide) hx), h.uns.own, fun p hp => (h.uns.rb p hp).of_block hs fun h0 b hx _ => hk b (by rintro rfl; exact h.dis _ (h.uns.dat p hp h0 _ hx) h.mg), h.uns.dat, h.uns.cap⟩, h.mg, by rw [h1]; exact h.vs, by rw [h2]; exact h.vu, by rw [h1]; exact h.ris, hok, h.dis, fun b hx => Nat.lt_of_lt_of_le (h.bnd b hx) hs⟩
theorem FO.fs {n : Nat} (h : FO n w A c L) : FS_ (fun b => n ≤ b ∧ b < w.heap.size) w A L :=
  ⟨h.rd, fun _ b hb => h.row.blk_lt b hb, fun p hp _ b hb => (h.dat p hp).blk_lt b hb⟩
theorem RR.small (h : RR M S w g A c L B cu U D) : ∀ p ∈ L, p.data.length ≤ 4194304 := fun p hp => by
  have hm : p.val ∈ D.sure := by rw [← h.vs]; exact List.mem_map.2 ⟨p, hp, rfl⟩
  exact h.ok.2.2.1 p.name p.data (fget_of_mem (rising_nodup h.ris) hm)
theorem RR.lens (h : RR M S w g A c L B cu U D) : L.length = D.sure.length ∧ U.length = D.unsure.length := ⟨by rw [← h.vs, List.length_map], by rw [← h.vu, List.length_map]⟩
end
theorem rising_foldl {us : List Wr} : ∀ {F : FS}, Rising F → Rising (us.foldl doF F) := by
  induction us with
  | nil => exact fun h => h
  | cons u r ih => exact fun h => ih (rising_do h u)
end Go.Proofs.YthdmnajcphaekaaDoor
/- Contracts of the reference's disk: Files, burns, Read. -/
namespace Go.Proofs.YthdmnajcphaekaaDoor
open Go.RowKit

theorem newF_small {w : World} {F : FS} {L : List FRow} (hv : L.map FRow.val = F) (hF : ∀ k l, fget F k = some l → l.length ≤ 4194304) (hr : Rising F) : ∀ p ∈ L, p.data.length ≤ 140737488355328 := fun p hp => by
  have hm : p.val ∈ F := by rw [← hv]; exact List.mem_map.2 ⟨p, hp, rfl⟩
  have := hF p.name p.data (fget_of_mem (rising_nodup hr) hm)
  omega
section
variable {M S : Nat → Prop} {w : World} {g : Nat} {A B : Option Addr} {c cu : Nat} {L : List FRow} {U : List (Wr × Option Addr × Nat)} {D : DSt}
theorem US_.cells (h : US_ M S w B cu U) {k : Nat} (hk : k < U.length) : ∃ b, B = some ⟨b, 0, none⟩ ∧ b < w.heap.size ∧ ∀ w' : World, w'.heap[b]? = w.heap[b]? → w'.cell? ⟨b, k * 4, none⟩ = some (.int .i64 U[k].1.kind) ∧ w'.cell? ⟨b, k * 4 + 1, none⟩ = some (.string ⟨U[k].1.name.toArray⟩) ∧ w'.cell? ⟨b, k * 4 + 2, none⟩ = some (.int .i64 (U[k].1.off : Int)) ∧ w'.cell? ⟨b, k * 4 + 3, none⟩ = some (.slice U[k].2.1 U[k].1.data.length U[k].2.2) := by
  obtain ⟨b, rfl, _, hb⟩ := h.row.head' (by simp; omega)
  refine ⟨b, rfl, hb, fun w' hw => ?_⟩
  have hi : (U.map wrRow)[k]? = some (wrRow U[k]) := by simp [hk]
  have h0 := h.row.rs.get hi 0 rfl
  have h1 := h.row.rs.get hi 1 rfl
  have h2 := h.row.rs.get hi 2 rfl
  have h3 := h.row.rs.get hi 3 rfl
  rw [Nat.zero_add] at h0 h1 h2 h3
  have e : ∀ o, w'.cell? ⟨b, o, none⟩ = w.cell? ⟨b, o, none⟩ := fun o => World.cell?_of_block (w := w) (a := ⟨b, o, none⟩) hw
  exact ⟨(e _).trans h0, (e _).trans h1, (e _).trans h2, (e _).trans h3⟩

set_option maxRecDepth 20000 in
set_option maxHeartbeats 4000000 in
theorem refFiles (h : RR M S w g A c L B cu U D) (hcnt : D.cnt ≤ 1000000) : Calls Tryd.prog 14 #[.pointer (some ⟨g, 0, none⟩)] w (NewF w D.files) := by
  have HLN := Lib.hid h.lens
  have hcn : L.length + U.length ≤ 1000000 := by have := HLN.out; unfold DSt.cnt at hcnt; omega
  have H := Lib.hid h
  have HOWN := Lib.hid (refOwn' A c L w h.sure.rd (by omega) (fun p hp => by have := h.small p hp; omega))
  rw [h.vs] at HOWN
  have c0 := h.blk.cell 0 rfl
  have HDF : Hid (D.files = (U.map Prod.fst).foldl doF D.sure) := Lib.hid (by rw [h.vu]; rfl)
  clear h
  go_enter Tryd.func14, Tryd.ntmps14
  go_wp2_with fail
  refine HOWN.out.mono ?_
  rintro e w2 ⟨A2, c2, L2, rfl, hv2, hO2, hb2⟩
  have HO2 := Lib.hid hO2
  have hL2 : L2.length ≤ L.length := by have := congrArg List.length hv2.out; rw [List.length_map] at this; rw [this, HLN.out.1]; exact Nat.le_refl _
  clear HOWN c0 hO2
  go_wp2_with fail
  go_loopw [3, 4] (fun s3 s4 wr => ∃ (k : Nat) (A' : Option Addr) (c' : Nat) (L' : List FRow), k ≤ U.length ∧ s4 = .int .i64 (k : Int) ∧ s3 = .slice A' L'.length c' ∧ L'.length ≤ L.length + k ∧ Hid (L'.map FRow.val = ((U.take k).map Prod.fst).foldl doF D.sure) ∧ Hid (FO w.heap.size wr A' c' L') ∧ Below w.heap.size w wr) (fun _ s4 _ => U.length - (intOf s4).toNat)
  case atStart => exact ⟨0, A2, c2, L2, Nat.zero_le _, rfl, rfl, by omega, hv2, HO2, hb2⟩
  case round =>
    obtain ⟨k, A', c', L', hk, rfl, rfl, hl', hv, HO, hB⟩ := hrel
    clear HO2 hb2 hL2
    have c1 := (H.out.blk.kept hB).cell 1 rfl
    by_cases hlt : k < U.length
    · obtain ⟨b, hBe, hbl, hcs⟩ := H.out.uns.cells hlt
      subst hBe
      obtain ⟨d0, d1, d2, d3⟩ := hcs wr (hB.block b hbl)
      have hok : U[k].1.ok := H.out.ok.2.2.2 _ (by rw [← H.out.vu]; exact List.mem_map.2 ⟨U[k], List.getElem_mem hlt, rfl⟩)
      have hrb := (H.out.uns.rb _ (List.getElem_mem hlt)).below hB
      have hri : Rising (L'.map FRow.val) := by rw [hv.out]; exact rising_foldl H.out.ris
      have hsm := newF_small (w := wr) rfl (by
        intro k' l' h'
        rw [hv.out] at h'
        refine foldl_small H.out.ok.2.2.1 (fun u hu => H.out.ok.2.2.2 u ?_) k' l' h'
        rw [← H.out.vu]
        obtain ⟨p, hp, rfl⟩ := List.mem_map.1 hu
        exact List.mem_map.2 ⟨p, List.mem_of_mem_take hp, rfl⟩) hri
      have HDO := Lib.hid (refDo A' c' L' wr U[k].1 U[k].2.1 U[k].2.2 HO.out.rd hrb hri (by omega) hsm (by have := hok.2; omega) (by have := hok.2; omega) hok.1)
      have HLE := Lib.hid (doF_len (L'.map FRow.val) U[k].1)
      have HVN : Hid (doF (L'.map FRow.val) U[k].1 = ((U.take (k + 1)).map Prod.fst).foldl doF D.sure) := Lib.hid (by
        rw [hv.out, List.take_succ_eq_append_getElem hlt, List.map_append, List.foldl_append]; rfl)
      rw [HVN.out] at HDO HLE
      unfold wrV at HDO
      generalize U[k].1.kind = kk at *
      generalize U[k].1.name = kn at *
      generalize U[k].1.off = ko at *
      generalize U[k].1.data.length = kd at *
      generalize U[k].2.1 = kA at *
      generalize U[k].2.2 = kc at *
      clear hok hrb hri hsm hv HVN HO hcs
      have hlt1 : k + 1 ≤ U.length := hlt
      go_wp2_with fail
      with_reducible refine HDO.out.mono ?_
      rintro e w3 ⟨A3, c3, L3, rfl, hv3, hO3, hb3⟩
      have hB3 := hB.trans (hb3.mono hB.size)
      have HO3 := Lib.hid (hO3.base_le hB.size)
      have hL3 : L3.length ≤ L.length + (k + 1) := by
        have e1 := congrArg List.length hv3.out
        have e2 := HLE.out
        rw [List.length_map] at e1 e2
        omega
      clear hb3 hO3 HDO HLE c1 d0 d1 d2 d3 hB
      go_wp2_with fail
      go_roundw
      case rel => exact ⟨k + 1, A3, c3, L3, hlt1, by go_num, rfl, hL3, hv3, HO3, hB3⟩
      case measure => simp [intOf]; omega
    · obtain rfl : k = U.length := by omega
      have HF : Hid (NewF w D.files (.returned (.slice A' L'.length c')) wr) := Lib.hid ⟨A', c', L', rfl, Lib.hid (by rw [hv.out, HDF.out, List.take_of_length_le (Nat.le_refl _)]), HO.out, hB⟩
      clear hv HO HDF
      go_wp2_with fail
      go_ret
      exact HF.out
end
end Go.Proofs.YthdmnajcphaekaaDoor
/- Contracts of the reference's disk: burns, Sync, Read. -/
namespace Go.Proofs.YthdmnajcphaekaaDoor
open Go.RowKit

section
variable {M S : Nat → Prop} {w : World} {g : Nat} {A B : Option Addr} {c cu : Nat} {L : List FRow} {U : List (Wr × Option Addr × Nat)} {D : DSt}
set_option maxRecDepth 20000 in
set_option maxHeartbeats 4000000 in
theorem refBurns (h : RR M S w g A c L B cu U D) (hd : D.down = false) : Calls Tryd.prog 42 #[.pointer (some ⟨g, 0, none⟩)] w fun e w' => e = .returned (.bool (burnD D).down) ∧ RR M S w' g A c L B cu U (burnD D) ∧ Mods (fun b => b = g) w w' := by
  have H := Lib.hid h
  have c3 := h.blk.cell 3 rfl
  have c4 := h.blk.cell 4 rfl
  have f3 := h.blk.free 3
  have f4 := h.blk.free 4
  rw [hd] at c4
  have hf := h.ok.2.1
  have HOK := Lib.hid (burnD_ok h.ok)
  by_cases hp : 0 < D.fuse
  · by_cases h1 : D.fuse = 1
    · have hb : burnD D = { D with fuse := 0, down := true } := by unfold burnD; rw [if_pos hp, h1]; rfl
      have HF : Hid (RR M S ((w.setCell ⟨g, 3, none⟩ (.int .i64 0)).setCell ⟨g, 4, none⟩ (.bool true)) g A c L B cu U (burnD D) ∧ Mods (fun b => b = g) w ((w.setCell ⟨g, 3, none⟩ (.int .i64 0)).setCell ⟨g, 4, none⟩ (.bool true))) := Lib.hid ⟨by
        refine h.var (by simp) (fun b hb => by rw [Below.heap_setCell _ _ _ b hb, Below.heap_setCell _ _ _ b hb]) ?_ (burnD_sure D) (burnD_unsure D) HOK.out
        rw [hb]
        exact (h.blk.setCell 3 (.int .i64 0)).setCell 4 (.bool true), ((Mods.refl (fun b => b = g) w).setCell ⟨g, 3, none⟩ (.inl rfl) _).setCell ⟨g, 4, none⟩ (.inl rfl) _⟩
      have HD : Hid ((burnD D).down = true) := Lib.hid (by rw [hb])
      rw [h1] at c3
      clear h hp h1 hf hb H HOK hd
      go_enter Tryd.func42, Tryd.ntmps42
      go_wp2_with fail
      go_ret
      exact ⟨by rw [HD.out]; rfl, HF.out⟩
    · have hb : burnD D = { D with fuse := D.fuse - 1, down := false } := by unfold burnD; rw [if_pos hp, decide_eq_false (by omega)]
      have HF : Hid (RR M S (w.setCell ⟨g, 3, none⟩ (.int .i64 (D.fuse - 1))) g A c L B cu U (burnD D) ∧ Mods (fun b => b = g) w (w.setCell ⟨g, 3, none⟩ (.int .i64 (D.fuse - 1)))) := Lib.hid ⟨by
        refine h.var (by simp) (fun b hb => by rw [Below.heap_setCell _ _ _ b hb]) ?_ (burnD_sure D) (burnD_unsure D) HOK.out
        have := h.blk.setCell 3 (.int .i64 (D.fuse - 1))
        rw [hd] at this
        rw [hb]
        exact this, (Mods.refl (fun b => b = g) w).setCell ⟨g, 3, none⟩ (.inl rfl) _⟩
      have HD : Hid ((burnD D).down = false) := Lib.hid (by rw [hb])
      generalize D.fuse = fu at *
      have h0b : (fu - 1 == 0) = false := by simp; omega
      clear h hb H HOK hd
      go_enter Tryd.func42, Tryd.ntmps42
      go_wp2_with fail
      go_ret
      exact ⟨by rw [HD.out]; rfl, HF.out⟩
  · have hb : burnD D = D := by unfold burnD; rw [if_neg hp]
    have HD : Hid ((burnD D).down = false) := Lib.hid (by rw [hb]; exact hd)
    rw [← hb] at H
    clear h hb hd f3 f4 HOK
    go_enter Tryd.func42, Tryd.ntmps42
    go_wp2_with fail
    go_ret
    exact ⟨by rw [HD.out]; rfl, H.out, Mods.refl _ _⟩

/-- What a call of a disk that may be changed ends in. -/
def RDone (M S : Nat → Prop) (w : World) (g : Nat) (D : DSt) (v : Value) (e : Ending) (w' : World) : Prop :=
  e = .returned v ∧ (∃ M' S' : Nat → Prop, RI M' S' w' g D ∧ (∀ b, M' b → M b ∨ News w w' b) ∧ (∀ b, S' b → S b ∨ News w w' b)) ∧ Mods M w w'
set_option maxRecDepth 20000 in
set_option maxHeartbeats 4000000 in
theorem refSync (h : RR M S w g A c L B cu U D) (hcnt : D.cnt ≤ 1000000) : Calls Tryd.prog 21 #[.pointer (some ⟨g, 0, none⟩)] w (RDone M S w g (syncD D).2 (.int .i64 (syncD D).1)) := by
  have same : ∀ (D' : DSt) (w' : World) (M0 : Nat → Prop), RR M S w' g A c L B cu U D' → Mods M w w' → ∃ M' S' : Nat → Prop, RI M' S' w' g D' ∧ (∀ b, M' b → M b ∨ News w w' b) ∧ (∀ b, S' b → S b ∨ News w w' b) := fun D' w' _ hr _ =>
    ⟨M, S, ⟨A, c, L, B, cu, U, hr⟩, fun b hb => .inl hb, fun b hb => .inl hb⟩
  have c4 := h.blk.cell 4 rfl
  cases hd : D.down
  · rw [hd] at c4
    have HB := Lib.hid (refBurns h hd)
    have hmg := h.mg
    have hsz := h.blk.lt
    cases hbd : (burnD D).down
    · have hsy : syncD D = (0, { burnD D with sure := D.files, unsure := [] }) := by unfold syncD; rw [hd, hbd]; rfl
      rw [hsy]
      rw [hbd] at HB
      have hok := h.ok
      have hok' := burnD_ok h.ok
      have hris := h.ris
      have hdis := h.dis
      clear h hsy
      go_enter Tryd.func21, Tryd.ntmps21
      go_wp2_with fail
      refine HB.out.mono ?_
      rintro e w2 ⟨rfl, h2, hm2⟩
      have HF := Lib.hid (refFiles h2 (by unfold DSt.cnt at *; rw [burnD_sure, burnD_unsure]; exact hcnt))
      rw [burnD_files] at HF
      have H2 := Lib.hid h2
      clear c4 h2
      go_wp2_with fail
      refine HF.out.mono ?_
      rintro e w3 ⟨A3, c3, L3, rfl, hv3, hO3, hb3⟩
      have h3 := H2.out.below hb3
      have f0 := h3.blk.free 0
      have f1 := h3.blk.free 1
      have c0 := h3.blk.cell 0 rfl
      have c1 := h3.blk.cell 1 rfl
      have hm3 : Mods M w w3 := (hm2.mono fun b _ hb => by subst hb; exact hmg).below hb3
      have HFIN : Hid (RDone M S w g { burnD D with sure := D.files, unsure := [] } (.int .i64 0) (.returned (.int .i64 0)) ((w3.setCell ⟨g, 0, none⟩ (.slice A3 L3.length c3)).setCell ⟨g, 1, none⟩ (.slice none 0 0))) := Lib.hid (by
        have hkb : ∀ b, b ≠ g → ((w3.setCell ⟨g, 0, none⟩ (.slice A3 L3.length c3)).setCell ⟨g, 1, none⟩ (.slice none 0 0)).heap[b]? = w3.heap[b]? := fun b hb => by rw [Below.heap_setCell _ _ _ b hb, Below.heap_setCell _ _ _ b hb]
        have hsz3 : ((w3.setCell ⟨g, 0, none⟩ (.slice A3 L3.length c3)).setCell ⟨g, 1, none⟩ (.slice none 0 0)).heap.size = w3.heap.size := by simp
        have hg2 := H2.out.blk.lt
        refine ⟨rfl, ⟨M, fun b => w2.heap.size ≤ b ∧ b < w3.heap.size, ⟨A3, c3, L3, none, 0, [], ?_⟩, fun b hb => .inl hb, fun b hb => .inr ⟨by have := hm2.size; omega, by rw [hsz3]; exact hb.2⟩⟩, (hm3.setCell _ (.inl hmg) _).setCell _ (.inl hmg) _⟩
        have hbk : Blk ((w3.setCell ⟨g, 0, none⟩ (.slice A3 L3.length c3)).setCell ⟨g, 1, none⟩ (.slice none 0 0)) g 42 #[.slice A3 L3.length c3, .slice none 0 0, .int .i64 (burnD D).room, .int .i64 (burnD D).fuse, .bool (burnD D).down] := (h3.blk.setCell 0 (.slice A3 L3.length c3)).setCell 1 (.slice none 0 0)
        refine ⟨hbk, hO3.fs.of_blocks (by rw [hsz3]; exact Nat.le_refl _) fun b _ hb => hkb b (by omega), ⟨OR.nil _ _ _ _, by simp, by simp, by simp, by simp⟩, hmg, hv3.out, rfl, by show Rising D.files; exact rising_foldl hris, ?_, fun b hb hM => by have := h3.bnd b (.inl hM); have := H2.out.bnd b (.inl hM); omega, fun b hb => by
          rw [hsz3]
          rcases hb with hb | hb
          · exact h3.bnd b (.inl hb)
          · exact hb.2⟩
        exact ⟨hok'.1, hok'.2.1, foldl_small hok.2.2.1 hok.2.2.2, by simp⟩)
      clear hm2 hm3 hv3 hO3 h3 hb3 HF HB H2
      go_wp2_with fail
      go_ret
      exact HFIN.out
    · have hsy : syncD D = (11, burnD D) := by unfold syncD; rw [hd, hbd]; rfl
      rw [hsy]
      rw [hbd] at HB
      clear h hsy
      go_enter Tryd.func21, Tryd.ntmps21
      go_wp2_with fail
      refine HB.out.mono ?_
      rintro e w2 ⟨rfl, h2, hm2⟩
      have hm2' : Mods M w w2 := hm2.mono fun b _ hb => by subst hb; exact hmg
      have HF : Hid (RDone M S w g (burnD D) (.int .i64 11) (.returned (.int .i64 11)) w2) := Lib.hid ⟨rfl, same _ _ M h2 hm2', hm2'⟩
      clear h2 hm2 hm2' c4 HB
      go_wp2_with fail
      go_ret
      exact HF.out
  · have hsy : syncD D = (11, D) := by unfold syncD; rw [hd]; rfl
    rw [hsy]
    rw [hd] at c4
    have HF : Hid (RDone M S w g D (.int .i64 11) (.returned (.int .i64 11)) w) := Lib.hid ⟨rfl, same _ _ M h (Mods.refl _ _), Mods.refl _ _⟩
    clear h hsy
    go_enter Tryd.func21, Tryd.ntmps21
    go_wp2_with fail
    go_ret
    exact HF.out
end
end Go.Proofs.YthdmnajcphaekaaDoor
/- Contract of the reference's disk: Read. -/
namespace Go.Proofs.YthdmnajcphaekaaDoor
open Go.RowKit

section
variable {M S : Nat → Prop} {w : World} {g : Nat} {A B : Option Addr} {c cu : Nat} {L : List FRow} {U : List (Wr × Option Addr × Nat)} {D : DSt}
set_option maxRecDepth 20000 in
set_option maxHeartbeats 4000000 in
theorem refRead (name : Nm) (h : RR M S w g A c L B cu U D) (hcnt : D.cnt ≤ 1000000) (hn : name.length ≤ 9223372036854775807) : Calls Tryd.prog 44 #[.pointer (some ⟨g, 0, none⟩), .string ⟨name.toArray⟩] w (ReadEnd w D name) := by
  have c4 := h.blk.cell 4 rfl
  cases hd : D.down
  · rw [hd] at c4
    have NM := Lib.hid (refNamed ⟨name.toArray⟩ w (by simpa [ByteArray.size] using hn))
    cases hno : nameOk name
    · rw [show nameOk (⟨name.toArray⟩ : ByteArray).data.toList = false from hno] at NM
      have HE : Hid (readE D name = 1) := Lib.hid (by unfold readE; rw [hd, hno]; rfl)
      clear h hd hno
      go_enter Tryd.func44, Tryd.ntmps44
      go_wp2_with fail
      refine NM.out.mono ?_
      rintro e w2 ⟨rfl, rfl⟩
      go_wp2_with fail
      go_ret2
      exact readEnd_err HE.out (by decide) (Below.refl _ _)
    · rw [show nameOk (⟨name.toArray⟩ : ByteArray).data.toList = true from hno] at NM
      have FL := Lib.hid (refFiles h hcnt)
      have hris : Rising D.files := rising_foldl h.ris
      have hfl : D.files.length ≤ 1000000 := by have := foldl_len D.unsure D.sure; unfold DSt.cnt at hcnt; exact Nat.le_trans this hcnt
      have HFG := Lib.hid (fget_fat hris name)
      have HFS := Lib.hid (fget_isSome hris name)
      clear h hris
      have HRE : Hid (∀ b, fat D.files name = b → readE D name = if b = true then 0 else 8) := Lib.hid fun b hb => by unfold readE; rw [hd, hno, HFS.out, hb]; rfl
      go_enter Tryd.func44, Tryd.ntmps44
      go_wp2_with fail
      refine NM.out.mono ?_
      rintro e w2 ⟨rfl, rfl⟩
      clear hd hno
      go_wp2_with fail
      refine FL.out.mono ?_
      rintro e w2 ⟨A2, c2, L2, rfl, hv2, hO2, hb2⟩
      have hl2 : L2.length ≤ 1000000 := by have := congrArg List.length hv2.out; rw [List.length_map] at this; omega
      have FD := Lib.hid (refFind A2 c2 L2 name w2 hO2.rd (by omega))
      rw [hv2.out] at FD
      have HO2 := Lib.hid hO2
      clear c4 FL hO2
      go_wp2_with fail
      refine FD.out.mono ?_
      rintro e w3 ⟨rfl, hb3⟩
      have HO3 := Lib.hid (HO2.out.below hb3)
      have hB3 := hb2.trans (hb3.mono hb2.size)
      clear HO2 hb2 hb3 FD
      cases hat : fat D.files name
      · have HE := Lib.hid (HRE.out false hat)
        clear hat HRE HFG HFS
        go_wp2_with fail
        go_ret2
        exact readEnd_err (by rw [HE.out]; rfl) (by decide) hB3
      · have HE : Hid (readE D name = 0) := Lib.hid (by rw [HRE.out true hat]; rfl)
        have hlt := fat_lt hat
        have hg := HFG.out
        rw [dif_pos hat] at hg
        have hlt2 : fpos D.files name < L2.length := by have := congrArg List.length hv2.out; rw [List.length_map] at this; omega
        have hval : D.files[fpos D.files name].2 = L2[fpos D.files name].data := by
          have : (L2.map FRow.val)[fpos D.files name]'(by rw [List.length_map]; exact hlt2) = L2[fpos D.files name].val := by simp
          rw [show L2[fpos D.files name].data = L2[fpos D.files name].val.2 from rfl, ← this]
          congr 2
          exact hv2.out.symm
        have HB : Hid (readB D name = L2[fpos D.files name].data) := Lib.hid (by unfold readB; rw [HE.out, if_pos rfl, hg, ← hval]; rfl)
        obtain ⟨b, off, rfl, _, _, c1⟩ := HO3.out.rd.row hlt2
        have HD := Lib.hid (HO3.out.dat _ (List.getElem_mem hlt2))
        generalize L2[fpos D.files name].A = Ak at *
        generalize L2[fpos D.files name].c = ck at *
        generalize L2[fpos D.files name].data = dk at *
        clear hat HRE HFG HFS hg hval hlt HO3
        generalize fpos D.files name = i at *
        go_wp2_with fail
        go_ret2
        exact ⟨Ak, ck, by rw [HB.out, HE.out]; rfl, by rw [HB.out]; exact HD.out, hB3⟩
  · have HE : Hid (readE D name = 11) := Lib.hid (by unfold readE; rw [hd]; rfl)
    rw [hd] at c4
    clear h hd
    go_enter Tryd.func44, Tryd.ntmps44
    go_wp2_with fail
    go_ret2
    exact readEnd_err HE.out (by decide) (Below.refl _ _)
end
end Go.Proofs.YthdmnajcphaekaaDoor
