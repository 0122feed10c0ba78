/- Grown: put together by merge.py of: ActNum, GrownA, GrownB. -/
import Derived.Test.YthdmnajcphaekaaDoorDiskV
import Derived.Test.YthdmnajcphaekaaDoorArgsS
import Derived.Test.YthdmnajcphaekaaDoorDskR
import Derived.Test.YthdmnajcphaekaaDoorI64
/- Plain: what the acts on a disk keep. -/
namespace Go.Proofs.YthdmnajcphaekaaDoor

theorem keepAt_len (mask : Nat) : ∀ (l : List Wr) (k : Nat), (keepAt mask k l).length ≤ l.length
  | [], _ => Nat.le_refl _
  | u :: r, k => by
    have := keepAt_len mask r (k + 1)
    rw [keepAt]
    split
    · simpa using this
    · rw [List.length_cons]; omega
theorem keepAt_mem (mask : Nat) : ∀ (l : List Wr) (k : Nat), ∀ u ∈ keepAt mask k l, u ∈ l
  | [], _, _, h => h
  | v :: r, k, u, h => by
    rw [keepAt] at h
    split at h
    · rcases List.mem_cons.1 h with rfl | h
      · exact List.mem_cons_self
      · exact List.mem_cons_of_mem _ (keepAt_mem mask r (k + 1) u h)
    · exact List.mem_cons_of_mem _ (keepAt_mem mask r (k + 1) u h)
theorem cutW_name (torn : Int) (u : Wr) : (cutW torn u).name = u.name := by unfold cutW; split <;> rfl
theorem cutLast_len (torn : Int) : ∀ l : List Wr, (cutLast torn l).length = l.length
  | [] => rfl
  | u :: r => by
    have := cutLast_len torn r
    rw [cutLast]
    split
    · simpa using this
    · split <;> simp
theorem cutLast_name (torn : Int) : ∀ (l : List Wr), ∀ u ∈ cutLast torn l, ∃ v ∈ l, u.name = v.name
  | [], _, h => by simp [cutLast] at h
  | v :: r, u, h => by
    rw [cutLast] at h
    split at h
    · rcases List.mem_cons.1 h with rfl | h
      · exact ⟨_, List.mem_cons_self, rfl⟩
      · obtain ⟨x, hx, e⟩ := cutLast_name torn r u h
        exact ⟨x, List.mem_cons_of_mem _ hx, e⟩
    · split at h
      · rcases List.mem_cons.1 h with rfl | h
        · exact ⟨_, List.mem_cons_self, cutW_name _ _⟩
        · exact ⟨u, List.mem_cons_of_mem _ h, rfl⟩
      · exact ⟨u, h, rfl⟩
theorem cutLast_none : ∀ l : List Wr, cutLast (-1) l = l
  | [] => rfl
  | u :: r => by
    rw [cutLast, cutLast_none r]
    have e : cutW (-1) u = u := by unfold cutW; rw [if_neg (by omega)]
    rw [e]
    split
    · rfl
    · split <;> rfl
theorem bit_all (k : Nat) : bitAt 18446744073709551615 k = true := by
  have key : ∀ m : Fin 64, bitAt 18446744073709551615 m.val = true := by decide
  have h := key ⟨k % 64, Nat.mod_lt _ (by decide)⟩
  unfold bitAt at h ⊢
  rwa [Nat.mod_mod] at h
theorem bit_none (k : Nat) : bitAt 0 k = false := by
  unfold bitAt
  rw [Nat.zero_div]
  rfl
theorem keepAt_all : ∀ (l : List Wr) (k : Nat), keepAt 18446744073709551615 k l = l
  | [], _ => rfl
  | u :: r, k => by rw [keepAt, if_pos (bit_all k), keepAt_all r]
theorem keepAt_none : ∀ (l : List Wr) (k : Nat), keepAt 0 k l = []
  | [], _ => rfl
  | u :: r, k => by rw [keepAt, if_neg (by rw [bit_none]; simp), keepAt_none r]
theorem fallUs_all (us : List Wr) : fallUs 18446744073709551615 (-1) us = us := by unfold fallUs; rw [keepAt_all, cutLast_none]
theorem fallUs_zero (torn : Int) (us : List Wr) : fallUs 0 torn us = [] := by unfold fallUs; rw [keepAt_none]; rfl
theorem fallUs_nil (mask : Nat) (torn : Int) : fallUs mask torn [] = [] := rfl

/-- A disk of few files with fit names. -/
def DSt.good (D : DSt) (n : Nat) : Prop := D.cnt ≤ n ∧ D.named
theorem good0 (room : Int) : (dsk0 room).good 0 := ⟨Nat.le_refl _, fun _ h => by simp [dsk0] at h, fun _ h => by simp [dsk0] at h⟩
theorem DSt.good.mono {D : DSt} {m n : Nat} (h : D.good m) (hm : m ≤ n) : D.good n := ⟨Nat.le_trans h.1 hm, h.2⟩
theorem burn_cnt (D : DSt) : (burnD D).cnt = D.cnt := by unfold DSt.cnt; rw [burnD_sure, burnD_unsure]
theorem DSt.good.burn {D : DSt} {n : Nat} (h : D.good n) : (burnD D).good n := ⟨by rw [burn_cnt]; exact h.1, by unfold DSt.named; rw [burnD_sure, burnD_unsure]; exact h.2⟩
theorem DSt.good.change {D : DSt} {n : Nat} (h : D.good n) (c : Wr) (off : Int) : (changeD D c off).2.good (n + 1) := by
  unfold changeD
  split
  · exact h.mono (Nat.le_succ _)
  · rename_i hr
    split
    · exact h.burn.mono (Nat.le_succ _)
    · have hn : nameOk c.name = true := by
        cases hc : nameOk c.name with
        | true => rfl
        | false =>
          exfalso
          apply hr
          unfold refuseD
          split
          · decide
          · rw [if_pos (.inl hc)]; decide
      have hb := h.burn
      refine ⟨?_, hb.2.1, fun u hu => ?_⟩
      · have := hb.1
        unfold DSt.cnt at this ⊢
        simp only [List.length_append, List.length_singleton]
        omega
      · rcases List.mem_append.1 hu with hu | hu
        · exact hb.2.2 u hu
        · rw [List.mem_singleton] at hu; subst hu; exact hn
theorem DSt.good.sync {D : DSt} {n : Nat} (h : D.good n) : (syncD D).2.good n := by
  unfold syncD
  split
  · exact h
  · split
    · exact h.burn
    · refine ⟨?_, h.2.files, fun _ hu => by simp at hu⟩
      have := DSt.files_len D
      have := h.1
      unfold DSt.cnt at *
      simp only [List.length_nil]
      omega
theorem DSt.good.fall {D : DSt} {n : Nat} (h : D.good n) (mask : Nat) (torn : Int) : (fallD D mask torn).good n := by
  have h1 := foldl_len (fallUs mask torn D.unsure) D.sure
  have h2 : (fallUs mask torn D.unsure).length ≤ D.unsure.length := by unfold fallUs; rw [cutLast_len]; exact keepAt_len _ _ _
  refine ⟨?_, named_foldl h.2.1 fun u hu => ?_, fun _ hu => by simp [fallD] at hu⟩
  · have := h.1
    unfold DSt.cnt at *
    simp only [fallD, List.length_nil]
    omega
  · obtain ⟨v, hv, e⟩ := cutLast_name torn _ u hu
    rw [e]
    exact h.2.2 v (keepAt_mem mask _ _ v hv)
theorem DSt.good.act {D : DSt} {n : Nat} (h : D.good n) (kind : Int) (name : Nm) (k : Int) (data : List UInt8) (mask : Nat) : (actD D kind name k data mask).good (n + 1) := by
  unfold actD
  split
  · exact h.change _ _
  · split
    · exact h.change _ _
    · split
      · exact h.change _ _
      · split
        · exact h.sync.mono (Nat.le_succ _)
        · split
          · unfold roomD; split <;> exact h.mono (Nat.le_succ _)
          · split
            · unfold fuseD; split <;> exact h.mono (Nat.le_succ _)
            · split
              · exact (h.fall mask k).mono (Nat.le_succ _)
              · exact h.mono (Nat.le_succ _)
end Go.Proofs.YthdmnajcphaekaaDoor
/- The law's begin, small and grown (layer 4). -/
namespace Go.Proofs.YthdmnajcphaekaaDoor
open Go.RowKit

/-- An act among a law's arguments. -/
structure AF where
  kind : Int
  name : Nm
  n : Int
  A : Option Addr
  c : Nat
  data : List UInt8
  mask : Nat
def AF.cells (a : AF) : List Value := [.int .i64 a.kind, .string ⟨a.name.toArray⟩, .int .i64 a.n, .slice a.A a.data.length a.c, .int .u64 (a.mask : Int)]
structure AF.ok (w : World) (a : AF) : Prop where
  kind : -9223372036854775808 ≤ a.kind ∧ a.kind ≤ 9223372036854775807
  name : a.name.length ≤ 9223372036854775807
  n : -9223372036854775808 ≤ a.n ∧ a.n ≤ 9223372036854775807
  rb : RB w a.A a.data
  len : a.data.length ≤ 140737488351232
  mask : a.mask < 18446744073709551616
theorem AF.ok.below {w w' : World} {a : AF} (h : a.ok w) (hb : Below w.heap.size w w') : a.ok w' := ⟨h.kind, h.name, h.n, h.rb.below hb, h.len, h.mask⟩
/-- Bytes that are there lie below the world's size. -/
theorem RB.lt {w : World} {A : Option Addr} {l : List UInt8} (h : RB w A l) (hn : 0 < l.length) : ∀ b, A.map (·.block) = some b → b < w.heap.size := by
  obtain ⟨b, off, rfl, hb, _⟩ := h.at_ hn
  intro k hk
  simp at hk
  omega
def AF.small (a : AF) : Bool := decide (a.n ≤ 100000) || decide (2 < a.kind)
def AF.act (a : AF) (D : DSt) : DSt := actD D a.kind a.name a.n a.data a.mask
/-- The acts in memory. -/
def Acts (w : World) (X : Option Addr) (L : List AF) : Prop := RS w X 5 (L.map AF.cells) ∧ ∀ a ∈ L, a.ok w
theorem Acts.below {w w' : World} {X : Option Addr} {L : List AF} (h : Acts w X L) (hb : Below w.heap.size w w') : Acts w' X L := ⟨h.1.below hb, fun a ha => (h.2 a ha).below hb⟩
theorem Acts.row {w : World} {X : Option Addr} {L : List AF} (h : Acts w X L) {k : Nat} (hk : k < L.length) : ∃ b off, X = some ⟨b, off, none⟩ ∧ b < w.heap.size ∧ w.cell? ⟨b, off + k * 5, none⟩ = some (.int .i64 L[k].kind) ∧ w.cell? ⟨b, off + k * 5 + 1, none⟩ = some (.string ⟨L[k].name.toArray⟩) ∧
    w.cell? ⟨b, off + k * 5 + 2, none⟩ = some (.int .i64 L[k].n) ∧ w.cell? ⟨b, off + k * 5 + 3, none⟩ = some (.slice L[k].A L[k].data.length L[k].c) ∧ w.cell? ⟨b, off + k * 5 + 4, none⟩ = some (.int .u64 (L[k].mask : Int)) := by
  obtain ⟨b, off, rfl, hb, hc⟩ := h.1.row (i := k) (by simpa using hk)
  exact ⟨b, off, rfl, hb, hc 0 _ (by simp [AF.cells]), hc 1 _ (by simp [AF.cells]), hc 2 _ (by simp [AF.cells]), hc 3 _ (by simp [AF.cells]), hc 4 _ (by simp [AF.cells])⟩

set_option maxRecDepth 20000 in
set_option maxHeartbeats 1000000 in
theorem lawSmall (a : AF) (w : World) : Calls Tryd.prog 12 #[.agg a.cells.toArray] w fun e w' => e = .returned (.bool a.small) ∧ Below w.heap.size w w' := by
  obtain ⟨kind, name, n, A, c, data, mask⟩ := a
  unfold AF.cells AF.small
  simp only
  have hal : Below w.heap.size w (w.alloc (.cells #[.int .i64 kind, .string ⟨name.toArray⟩, .int .i64 n, .slice A data.length c, .int .u64 (mask : Int)] 26)) := (Below.refl _ _).alloc (Nat.le_refl _) _
  have hx := Blk.new w #[.int .i64 kind, .string ⟨name.toArray⟩, .int .i64 n, .slice A data.length c, .int .u64 (mask : Int)] 26
  have x0 := hx.cell 0 rfl
  have x2 := hx.cell 2 rfl
  by_cases h1 : n ≤ 100000
  · rw [decide_eq_true h1, Bool.true_or]
    go_enter Tryd.func12, Tryd.ntmps12
    go_wp2_with fail
    go_ret
    exact ⟨rfl, hal⟩
  · rw [decide_eq_false h1, Bool.false_or]
    by_cases h2 : 2 < kind
    · rw [decide_eq_true h2]
      go_enter Tryd.func12, Tryd.ntmps12
      go_wp2_with fail
      go_ret
      exact ⟨rfl, hal⟩
    · rw [decide_eq_false h2]
      go_enter Tryd.func12, Tryd.ntmps12
      go_wp2_with fail
      go_ret
      exact ⟨rfl, hal⟩

/-- The reference's disk, new. -/
theorem ref0 (w : World) (room : Int) (h0 : 0 ≤ room) (h1 : room ≤ 4194304) : RI (fun b => b = w.heap.size) (fun _ => False) (w.alloc (.cells #[.slice none 0 0, .slice none 0 0, .int .i64 room, .int .i64 0, .bool false] 42)) w.heap.size (dsk0 room) :=
  ⟨none, 0, [], none, 0, [], ⟨Blk.new w _ _, ⟨⟨RS.nil, by simp⟩, by simp, by simp⟩, ⟨OR.nil _ _ _ _, by simp, by simp, by simp, by simp⟩, rfl, rfl, rfl, List.Pairwise.nil, ⟨⟨h0, h1⟩, ⟨by simp [dsk0], by simp [dsk0]⟩, fun k l hk => by simp [dsk0, fget] at hk, by simp [dsk0]⟩, fun _ h => h.elim, fun b hb => by
    rcases hb with rfl | hb
    · simp
    · exact hb.elim⟩⟩
/-- Two disks alike that are new since w. -/
def TwoNew (w : World) (n : Nat) (e : Ending) (w' : World) : Prop :=
  ∃ (d g : Nat) (T M S : Nat → Prop) (D : DSt), e = .returned (.tuple #[.pointer (some ⟨d, 0, none⟩), .pointer (some ⟨g, 0, none⟩)]) ∧ Pair T M S w' d D g D ∧ (∀ b, T b ∨ M b ∨ S b → News w w' b) ∧ D.good n ∧ Below w.heap.size w w'
theorem TwoNew.make {w w1 : World} {d : Nat} {room : Int} (hdi : DI (News w w1) w1 d (dsk0 room)) (hb1 : Below w.heap.size w w1) (h0 : 0 ≤ room) (h1 : room ≤ 4194304) :
    TwoNew w 0 (.returned (.tuple #[.pointer (some ⟨d, 0, none⟩), .pointer (some ⟨w1.heap.size, 0, none⟩)])) (w1.alloc (.cells #[.slice none 0 0, .slice none 0 0, .int .i64 room, .int .i64 0, .bool false] 42)) := by
  have hal : Below w1.heap.size w1 (w1.alloc (.cells #[.slice none 0 0, .slice none 0 0, .int .i64 room, .int .i64 0, .bool false] 42)) := (Below.refl _ _).alloc (Nat.le_refl _) _
  have hs := hb1.size
  refine ⟨d, w1.heap.size, News w w1, fun b => b = w1.heap.size, fun _ => False, dsk0 room, rfl, ⟨hdi.below hal, ref0 w1 room h0 h1, fun b hb => ⟨fun e => ?_, fun e => e⟩⟩, fun b hb => ?_, good0 room, hb1.trans (hal.mono hs)⟩
  · have := hb.2; omega
  · rcases hb with hb | hb | hb
    · exact ⟨hb.1, by have := hb.2; simp; omega⟩
    · subst hb; exact ⟨hs, by simp⟩
    · exact hb.elim
set_option maxRecDepth 20000 in
set_option maxHeartbeats 1000000 in
theorem lawBegin (room : Int) (w : World) : Calls Tryd.prog 26 #[.int .i64 room] w (TwoNew w 0) := by
  obtain ⟨r, hr, hr0, hr1⟩ : ∃ r : Int, r = (if room < 0 ∨ 4194304 < room then 50 else room) ∧ 0 ≤ r ∧ r ≤ 4194304 := ⟨_, rfl, by split <;> omega, by split <;> omega⟩
  have NW := Lib.hid (diskNew r w hr0 hr1)
  have HR := Lib.hid hr
  by_cases hb : room < 0 ∨ 4194304 < room
  · rw [if_pos hb] at hr
    subst hr
    rcases hb with hb | hb
    all_goals
      go_enter Tryd.func26, Tryd.ntmps26
      go_wp2_with fail
      refine NW.out.mono ?_
      rintro e w1 ⟨d, rfl, hdi, hb1⟩
      have HF := Lib.hid (TwoNew.make hdi hb1 (by omega) (by omega))
      clear hdi hb1 NW HR
      go_wp2_with fail
      go_ret2
      exact HF.out
  · rw [if_neg hb] at hr
    subst hr
    have hb1 : ¬ r < 0 := fun h => hb (.inl h)
    have hb2 : ¬ 4194304 < r := fun h => hb (.inr h)
    clear hb HR
    go_enter Tryd.func26, Tryd.ntmps26
    go_wp2_with fail
    refine NW.out.mono ?_
    rintro e w1 ⟨d, rfl, hdi, hb1⟩
    have HF := Lib.hid (TwoNew.make hdi hb1 (by omega) (by omega))
    clear hdi hb1 NW
    go_wp2_with fail
    go_ret2
    exact HF.out

/-- Acts on both disks, alike. -/
theorem Pair2.old {T M S : Nat → Prop} {w0 w w' : World} {d g : Nat} {D E : DSt} (h : Pair2 T M S w d D g E w') (hn : ∀ b, T b ∨ M b ∨ S b → News w0 w b) (hb : Below w0.heap.size w0 w) :
    ∃ T' M' S' : Nat → Prop, Pair T' M' S' w' d D g E ∧ (∀ b, T' b ∨ M' b ∨ S' b → News w0 w' b) ∧ Below w0.heap.size w0 w' := by
  obtain ⟨⟨T', M', S', hp, hT, hM, hS⟩, m⟩ := h
  have hs := hb.size
  have hs' := m.size
  have key : ∀ b, (T b ∨ M b ∨ S b) ∨ News w w' b → News w0 w' b := fun b hb => by
    rcases hb with hb | hb
    · have := hn b hb; exact ⟨this.1, by have := this.2; omega⟩
    · exact ⟨by have := hb.1; omega, hb.2⟩
  refine ⟨T', M', S', hp, fun b hb => key b ?_, Mods.old hb m hs fun i _ hi => ?_⟩
  · rcases hb with hb | hb | hb
    · rcases hT b hb with h | h
      · exact .inl (.inl h)
      · exact .inr h
    · rcases hM b hb with h | h
      · exact .inl (.inr (.inl h))
      · exact .inr h
    · rcases hS b hb with h | h
      · exact .inl (.inr (.inr h))
      · exact .inr h
  · rcases hi with h | h
    · exact (hn i (.inl h)).1
    · exact (hn i (.inr (.inl h))).1
set_option maxRecDepth 20000 in
set_option maxHeartbeats 4000000 in
theorem lawGrown (room : Int) (X : Option Addr) (c : Nat) (L : List AF) (w : World) (h : Acts w X L) (hl : L.length ≤ 9223372036854775807) : Calls Tryd.prog 10 #[.int .i64 room, .slice X L.length c] w (TwoNew w 200) := by
  have BG := Lib.hid (lawBegin room w)
  have HA := Lib.hid h
  clear h
  go_enter Tryd.func10, Tryd.ntmps10
  go_wp2_with fail
  refine BG.out.mono ?_
  rintro e w1 ⟨d, g, T, M, S, D, rfl, hp, hn, hgd, hb⟩
  have HP := Lib.hid hp
  have HN := Lib.hid hn
  have HG := Lib.hid hgd
  clear BG hp hn hgd
  go_wp2_with fail
  go_loopw [8] (fun s8 wr => ∃ (k : Nat) (T M S : Nat → Prop) (D : DSt), k ≤ L.length ∧ k ≤ 200 ∧ s8 = .int .i64 (k : Int) ∧ Hid (Pair T M S wr d D g D) ∧ Hid (∀ b, T b ∨ M b ∨ S b → News w wr b) ∧ Hid (D.good k) ∧ Below w.heap.size w wr) (fun s8 _ => L.length - (intOf s8).toNat)
  case atStart => exact ⟨0, T, M, S, D, Nat.zero_le _, by omega, rfl, HP, HN, HG, hb⟩
  case round =>
    clear HP HN HG hb
    obtain ⟨k, T, M, S, D, hk, hk2, rfl, HP, HN, HG, hB⟩ := hrel
    by_cases hlt : k < L.length
    · by_cases hlt2 : k < 200
      · obtain ⟨b, off, rfl, hbl, a0, a1, a2, a3, a4⟩ := (HA.out.below hB).row hlt
        have HOK := Lib.hid ((HA.out.2 _ (List.getElem_mem hlt)).below hB)
        have HCL : Hid (0 < L[k].data.length → ∀ b, L[k].A.map (·.block) = some b → b < w.heap.size) := Lib.hid fun h0 b hb => RB.lt ((HA.out.2 _ (List.getElem_mem hlt)).rb) h0 b hb
        generalize L[k] = a at *
        obtain ⟨kind, name, n, A, ca, data, mask⟩ := a
        simp only at a0 a1 a2 a3 a4 HCL
        have SM := Lib.hid (lawSmall ⟨kind, name, n, A, ca, data, mask⟩ wr)
        have hlt1 : k + 1 ≤ L.length := hlt
        have hlt3 : k + 1 ≤ 200 := hlt2
        have ha0 := a0
        have ha1 := a1
        have ha2 := a2
        have ha3 := a3
        have ha4 := a4
        go_wp2_with fail
        refine SM.out.mono ?_
        rintro e w2 ⟨rfl, hb2⟩
        have hB2 := hB.trans (hb2.mono hB.size)
        have HP2 := Lib.hid (HP.out.below hb2)
        have HN2 : Hid (∀ b, T b ∨ M b ∨ S b → News w w2 b) := Lib.hid fun b hb => ⟨(HN.out b hb).1, Nat.lt_of_lt_of_le (HN.out b hb).2 hb2.size⟩
        have HG2 := Lib.hid (HG.out.mono (Nat.le_succ k))
        have HACT := Lib.hid (lawAct kind name n data A ca mask (HP2.out) (HOK.out.rb.below hb2) (fun h0 b hb => ⟨fun hT => by have := (HN2.out b (.inl hT)).1; have := HCL.out h0 b hb; omega, fun hT => by have := (HN2.out b (.inr (.inl hT))).1; have := HCL.out h0 b hb; omega⟩) (Nat.le_trans HG.out.1 (by omega)) (Nat.le_trans HG.out.1 (by omega)) HOK.out.name HOK.out.n HOK.out.len HOK.out.mask)
        have c0 := (hb2.cell (p := ⟨b, off + k * 5, none⟩) hbl).trans ha0
        have c1 := (hb2.cell (p := ⟨b, off + k * 5 + 1, none⟩) hbl).trans ha1
        have c2 := (hb2.cell (p := ⟨b, off + k * 5 + 2, none⟩) hbl).trans ha2
        have c3 := (hb2.cell (p := ⟨b, off + k * 5 + 3, none⟩) hbl).trans ha3
        have c4 := (hb2.cell (p := ⟨b, off + k * 5 + 4, none⟩) hbl).trans ha4
        clear SM HCL HP HN hB hb2 a0 a1 a2 a3 a4 ha0 ha1 ha2 ha3 ha4
        cases hsm : AF.small ⟨kind, name, n, A, ca, data, mask⟩
        · clear hsm HACT
          go_wp2_with fail
          go_roundw
          case rel => exact ⟨k + 1, T, M, S, D, hlt1, hlt3, by go_num, HP2, HN2, HG2, hB2⟩
          case measure => simp [intOf]; omega
        · clear hsm
          by_cases h9 : kind = 9
          · subst h9
            clear HACT
            go_wp2_with fail
            go_roundw
            case rel => exact ⟨k + 1, T, M, S, D, hlt1, hlt3, by go_num, HP2, HN2, HG2, hB2⟩
            case measure => simp [intOf]; omega
          · have HGA := Lib.hid (HG.out.act kind name n data mask)
            go_wp2_with fail
            refine HACT.out.mono ?_
            rintro e w3 ⟨bb, rfl, _, hp3⟩
            obtain ⟨T', M', S', hp', hn', hB3⟩ := hp3.old HN2.out hB2
            have HP3 := Lib.hid hp'
            have HN3 := Lib.hid hn'
            clear hp3 hp' hn' HACT c0 c1 c2 c3 c4 HP2 HN2 hB2 HG2 HOK HG
            go_wp2_with fail
            go_roundw
            case rel => exact ⟨k + 1, T', M', S', _, hlt1, hlt3, by go_num, HP3, HN3, HGA, hB3⟩
            case measure => simp [intOf]; omega
      · go_wp2_with fail
        go_ret2
        exact ⟨d, g, T, M, S, D, rfl, HP.out, HN.out, HG.out.mono hk2, hB⟩
    · go_wp2_with fail
      go_ret2
      exact ⟨d, g, T, M, S, D, rfl, HP.out, HN.out, HG.out.mono hk2, hB⟩
end Go.Proofs.YthdmnajcphaekaaDoor
/- The acts among a law's arguments; copies. -/
namespace Go.Proofs.YthdmnajcphaekaaDoor
open Go.RowKit

def actK : List FK := [.int .i64, .str, .int .i64, .bytes, .int .u64]
def afOf : List Fv → AF
  | [.int _ k, .str nm, .int _ n, .bytes A c d, .int _ m] => ⟨k, nm, n, A, c, d, m.toNat⟩
  | _ => ⟨0, [], 0, none, 0, [], 0⟩
theorem afOf_ok {w : World} {r : List Fv} (h : rowOk w actK r) : (afOf r).cells = r.map Fv.val ∧ (afOf r).ok w := by
  match r, h with
  | [.int k0 n0, .str nm, .int k1 n1, .bytes D c d, .int k2 n2], h =>
    obtain ⟨⟨rfl, h0⟩, h1, ⟨rfl, h2⟩, ⟨h3, h4, h5, h6⟩, ⟨rfl, h7⟩, _⟩ := h
    have hu := u64_of_wf h7
    have hi0 := i64_of_wf h0
    have hi2 := i64_of_wf h2
    have h1' : nm.length ≤ 140737488351232 := h1
    refine ⟨?_, ⟨hi0, by simp only [afOf]; omega, hi2, h3, h6, by simp only [afOf]; omega⟩⟩
    have e : ((n2.toNat : Nat) : Int) = n2 := by omega
    simp [afOf, AF.cells, Fv.val, e]
theorem acts_of {w : World} {X : Option Addr} {L : List (List Fv)} (hX : RS w X 5 (L.map (·.map Fv.val))) (hR : ∀ r ∈ L, rowOk w actK r) : ∃ L' : List AF, L'.length = L.length ∧ Acts w X L' := by
  refine ⟨L.map afOf, by simp, ?_, fun a ha => ?_⟩
  · have e : (L.map afOf).map AF.cells = L.map (·.map Fv.val) := by
      rw [List.map_map]
      exact List.map_congr_left fun r hr => (afOf_ok (hR r hr)).1
    rw [e]
    exact hX
  · obtain ⟨r, hr, rfl⟩ := List.mem_map.1 ha
    exact (afOf_ok (hR r hr)).2
section
variable {T M S : Nat → Prop} {w w' : World} {d g d2 : Nat} {D E : DSt}
theorem Pair.copied (h : Pair T M S w d D g E) (h2 : DI (News w w') w' d2 D) (hb : Below w.heap.size w w') : Pair (News w w') M S w' d2 D g E :=
  ⟨h2, h.ri.below hb, fun b hb' => ⟨fun hM => by have := h.ri.bnd b (.inl hM); have := hb'.1; omega, fun hS => by have := h.ri.bnd b (.inr hS); have := hb'.1; omega⟩⟩
end
end Go.Proofs.YthdmnajcphaekaaDoor
