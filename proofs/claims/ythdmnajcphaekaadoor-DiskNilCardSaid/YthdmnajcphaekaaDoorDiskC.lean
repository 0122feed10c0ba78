/- Files in memory; contracts of package disk's size, clone, do. -/
import Derived.Test.YthdmnajcphaekaaDoorDiskB
import Derived.Sort.EncStr
namespace Go.Proofs.YthdmnajcphaekaaDoor
open Go.RowKit

theorem strLaw : KeyLaw Tryd.prog 9 encStr :=
  KeyLaw.scalar Tryd.underlying9 (fun k => by trivial) (fun x y h => by
    injection h with h
    injection h with h
    simpa using congrArg Array.toList h)

def vlen : Value → Nat
  | .slice _ n _ => n
  | _ => 0
section
variable {es : List (Nm × Value)} {F : FS}
theorem below_wset' {B m : Nat} {w a : World} (h : Below B w a) (hm : B ≤ m) (ob : Obj) : Below B w (wset a m ob) :=
  ⟨h.os, h.tape, h.output, by rw [wset_size]; exact h.size, fun k hk => (wset_other a m ob k (by omega)).trans (h.block k hk)⟩
/-- The blocks that were made between two worlds. -/
def News (w w' : World) (b : Nat) : Prop := w.heap.size ≤ b ∧ b < w'.heap.size
/-- A row of bytes whose block is one of these. -/
def OBS (S : Nat → Prop) (w : World) (A : Option Addr) (c : Nat) (l : List UInt8) : Prop := OB w 0 A c l ∧ ∀ b, A.map (·.block) = some b → S b
section
variable {S S' : Nat → Prop} {w w' : World} {A : Option Addr} {c : Nat} {l : List UInt8}
theorem OBS.mono (h : OBS S w A c l) (hs : ∀ b, b < w.heap.size → S b → S' b) : OBS S' w A c l := ⟨h.1, fun b hb => hs b (h.1.blk_lt b hb).2 (h.2 b hb)⟩
theorem OBS.below (h : OBS S w A c l) (hb : Below w.heap.size w w') : OBS S w' A c l := ⟨h.1.below hb, h.2⟩
theorem OBS.of_block (h : OBS S w A c l) (hb : ∀ b, A.map (·.block) = some b → w'.heap[b]? = w.heap[b]?) : OBS S w' A c l := ⟨h.1.of_block hb, h.2⟩
theorem OBS.new (h : OB w' w.heap.size A c l) : OBS (News w w') w' A c l := ⟨h.base_le (Nat.zero_le _), fun b hb => h.blk_lt b hb⟩
end
/-- What the map holds is what the files are. -/
structure Told (S : Nat → Prop) (w : World) (es : List (Nm × Value)) (F : FS) : Prop where
  hit : ∀ k v, mget es k = some v → ∃ A c l, v = .slice A l.length c ∧ OBS S w A c l ∧ fget F k = some l
  miss : ∀ k, mget es k = none → fget F k = none
theorem Told.keys {S : Nat → Prop} {w : World} (h : Told S w es F) (hn : (es.map Prod.fst).Nodup) (hF : Rising F) : (es.map Prod.fst).Perm (F.map Prod.fst) := by
  refine (List.perm_ext_iff_of_nodup hn (rising_nodup hF)).2 fun k => ?_
  rw [← mget_isSome_iff]
  cases hk : mget es k with
  | none =>
    have := fget_none.1 (h.miss k hk)
    simp [this]
  | some v =>
    obtain ⟨A, c, l, _, _, hg⟩ := h.hit k v hk
    simp only [Option.isSome_some, true_iff]
    exact List.mem_map.2 ⟨_, fget_mem hg, rfl⟩
theorem Told.len {S : Nat → Prop} {w : World} (h : Told S w es F) (hn : (es.map Prod.fst).Nodup) (hF : Rising F) : es.length = F.length := by
  have := (h.keys hn hF).length_eq
  simpa using this
theorem Told.sum {S : Nat → Prop} {w : World} (h : Told S w es F) (hn : (es.map Prod.fst).Nodup) (hF : Rising F) : (es.map (fun p => vlen p.2)).sum = fsize F := by
  have hp := ((h.keys hn hF).map (fun k => ((fget F k).getD []).length)).sum_nat
  rw [List.map_map, List.map_map] at hp
  unfold fsize
  rw [show es.map (fun p => vlen p.2) = es.map ((fun k => ((fget F k).getD []).length) ∘ Prod.fst) from List.map_congr_left fun p hp => by
    obtain ⟨A, c, l, hv, _, hg⟩ := h.hit p.1 p.2 (mget_some_of_mem hn hp)
    simp [hv, hg, vlen]]
  rw [hp]
  congr 1
  refine List.map_congr_left fun p hp => ?_
  simp [fget_of_mem (rising_nodup hF) (show (p.1, p.2) ∈ F from hp)]
theorem Told.below {S : Nat → Prop} {w w' : World} (h : Told S w es F) (hb : Below w.heap.size w w') : Told S w' es F :=
  ⟨fun k v hk => by obtain ⟨A, c, l, h1, h2, h3⟩ := h.hit k v hk; exact ⟨A, c, l, h1, h2.below hb, h3⟩, h.miss⟩
theorem Told.shape {S : Nat → Prop} {w : World} (h : Told S w es F) (hn : (es.map Prod.fst).Nodup) : ∀ p ∈ es, ∃ c : Option Addr × Nat × Nat, p.2 = .slice c.1 c.2.1 c.2.2 := fun p hp => by
  obtain ⟨A, c, l, hv, _, _⟩ := h.hit p.1 p.2 (mget_some_of_mem hn hp)
  exact ⟨(A, l.length, c), hv⟩
end
/-- Files in memory: a map at block m; all that they lie in is of these blocks. -/
def FI (S : Nat → Prop) (w : World) (m : Nat) (F : FS) : Prop := ∃ es : List (Nm × Value), MapAt encStr w m es ∧ Told S w es F ∧ Rising F ∧ S m
theorem FI.below {S : Nat → Prop} {m : Nat} {w w' : World} {F : FS} (h : FI S w m F) (hb : Below w.heap.size w w') : FI S w' m F := by
  obtain ⟨es, h1, h2, h3, h4⟩ := h
  exact ⟨es, h1.below hb, h2.below hb, h3, h4⟩
theorem sum_erase {α : Type} (f : α → Nat) {L : List α} {i : Nat} {x : α} (h : L[i]? = some x) : (L.map f).sum = f x + ((L.eraseIdx i).map f).sum := by
  induction L generalizing i with
  | nil => simp at h
  | cons a r ih =>
    cases i with
    | zero => simp at h; subst h; simp
    | succ i =>
      simp at h
      simp [ih h]
      omega

set_option maxRecDepth 20000 in
set_option maxHeartbeats 2000000 in
theorem diskSize {S : Nat → Prop} {m : Nat} {F : FS} (w : World) (h : FI S w m F) (hs : fsize F ≤ 4611686018427387904) : Calls Tryd.prog 33 #[.map (some m)] w fun e w' => e = .returned (.int .i64 (fsize F : Int)) ∧ Below w.heap.size w w' := by
  obtain ⟨es, hmap, ht, hF, _⟩ := h
  have hsum := ht.sum hmap.nodup hF
  have HV := Lib.hid (ht.shape hmap.nodup)
  rw [← hsum] at hs ⊢
  clear ht hsum hF
  go_enter Tryd.func33, Tryd.ntmps33
  go_wp2_with (at_range; refine wp_rangeT _ rfl (.tmp 6) rfl Tryd.underlying67 rfl hmap ?_; intro w1 hrg0 hb1 hs1)
  go_frame
  clear hmap hs1
  go_loopw [3] (fun v wr => ∃ (todo : List (Nm × Value)) (a : Nat), v = .int .i64 (a : Int) ∧ a + (todo.map (fun p => vlen p.2)).sum = (es.map (fun p => vlen p.2)).sum ∧ Ranging encStr wr m w.heap.size es todo ∧ Below w.heap.size w wr) (fun _ wr => wr.rangeLeft m w.heap.size)
  case atStart => exact ⟨es, 0, rfl, by omega, hrg0, hb1⟩
  case round =>
    obtain ⟨todo, a, rfl, hsum, hrg, hB⟩ := hrel
    clear hrg0 hb1
    go_wp2_with (at_next; refine wp_nextT _ (fun c : Option Addr × Nat × Nat => Value.slice c.1 c.2.1 c.2.2) rfl (.tmp 7) rfl rfl hrg HV.out ?_ ?_)
    · intro htodo
      subst htodo
      simp at hsum
      have HE : Hid (Ending.returned (.int .i64 (a : Int)) = .returned (.int .i64 ((es.map (fun p => vlen p.2)).sum : Int))) := Lib.hid (by rw [hsum])
      clear hrg
      go_wp2_with fail
      go_ret
      exact ⟨HE.out, hB⟩
    · intro i x cA cl cc w2 hi hrg2 hg2 hs2 hen
      have hlen : (todo.eraseIdx i).length < todo.length := by
        have := (List.getElem?_eq_some_iff.1 hi).1
        rw [List.length_eraseIdx, if_pos this]
        omega
      have hl1 := hrg.left_eq
      have hl2 := hrg2.left_eq
      have hse := sum_erase (fun p : Nm × Value => vlen p.2) hi
      have hB2 : Below w.heap.size w w2 := hB.grown hg2 hB.size (fun b hb => by injection hb with hb; omega)
      have hse2 : (todo.map (fun p => vlen p.2)).sum = cl + ((todo.eraseIdx i).map (fun p => vlen p.2)).sum := hse
      have HM : Hid (w2.rangeLeft m w.heap.size < wr.rangeLeft m w.heap.size) := Lib.hid (by rw [hl1, hl2]; exact hlen)
      have HRG := Lib.hid hrg2
      clear hrg hg2 hs2 hl1 hl2 hlen hse hrg2 hi hB
      go_wp2_with fail
      go_roundw
      case rel => exact ⟨_, a + cl, by go_num, by omega, HRG.out, hB2⟩
      case measure => exact HM.out

theorem cloneB' (A : Option Addr) (c : Nat) (l : List UInt8) (w : World) (h : RB w A l) (hl : l.length ≤ 220000000000000) :
    Calls Tryd.prog 39 #[.slice A l.length c] w fun e w' => ∃ A' c', e = .returned (.slice A' l.length c') ∧ OB w' w.heap.size A' c' l ∧ Below w.heap.size w w' := by
  refine (cloneB A c l w h hl).mono ?_
  rintro e w' ⟨k, A', c', hk, _, _, rfl, ho, hb⟩
  have := hk.out
  subst this
  exact ⟨A', c', rfl, ho, hb⟩
theorem Ranging.iter {w : World} {m r : Nat} {es todo : List (Nm × Value)} (h : Ranging encStr w m r es todo) : ∃ a b c d, w.heap[r]? = some (.mapIter a b c d) := by
  obtain ⟨L, clock, since, seen, c0, _, _, _, _, _, hr, _⟩ := h
  exact ⟨_, _, _, _, hr⟩
theorem keys_erase' {L : List (Nm × Value)} (hn : (L.map Prod.fst).Nodup) {i : Nat} {k : Nm} {v : Value} (hi : L[i]? = some (k, v)) (y : Nm) : y ∉ (L.eraseIdx i).map Prod.fst → y ∉ L.map Prod.fst ∨ y = k := by
  intro h
  by_cases hy : y = k
  · exact .inr hy
  · left
    intro hm
    apply h
    obtain ⟨p, hp, rfl⟩ := List.mem_map.1 hm
    obtain ⟨j, hj⟩ := List.getElem?_of_mem hp
    have hij : j ≠ i := by
      rintro rfl
      rw [hi] at hj
      injection hj with hj
      exact hy (by rw [← hj])
    refine List.mem_map.2 ⟨p, ?_, rfl⟩
    rw [List.mem_eraseIdx_iff_getElem?]
    exact ⟨j, hij, hj⟩

set_option maxRecDepth 20000 in
set_option maxHeartbeats 4000000 in
theorem diskClone {S : Nat → Prop} {m : Nat} {F : FS} (w : World) (h : FI S w m F) (hs : ∀ k l, fget F k = some l → l.length ≤ 220000000000000) : Calls Tryd.prog 41 #[.map (some m)] w fun e w' => e = .returned (.map (some w.heap.size)) ∧ FI (News w w') w' w.heap.size F ∧ Below w.heap.size w w' := by
  obtain ⟨es, hmap, ht, hF, _⟩ := h
  have HV := Lib.hid (ht.shape hmap.nodup)
  have HNOD := Lib.hid hmap.nodup
  have HT := Lib.hid ht
  have HS := Lib.hid hs
  have HF := Lib.hid hF
  have hmk := run_makeMap (P := Tryd.prog) 67 w
  have hal : Below w.heap.size w (w.alloc (.map #[] 0)) := (Below.refl _ _).alloc (Nat.le_refl _) _
  have HMAP := Lib.hid (hmap.below hal)
  have HNEW := Lib.hid (MapAt.made (kv := encStr) w)
  have hmlt := hmap.lt
  clear hmap ht hs hF
  go_enter Tryd.func41, Tryd.ntmps41
  go_wp2_with (at_range; refine wp_rangeT _ rfl (.tmp 7) rfl Tryd.underlying67 rfl HMAP.out ?_; intro w1 hrg0 hb1 hs1)
  go_frame
  have hB1 : Below w.heap.size w w1 := hal.trans (hb1.mono hal.size)
  have hN1 := HNEW.out.below hb1
  have hsz : (w.alloc (.map #[] 0)).heap.size = w.heap.size + 1 := by simp
  rw [hsz] at hrg0 ⊢
  obtain ⟨m2, hm2⟩ : ∃ m2, m2 = w.heap.size := ⟨_, rfl⟩
  rw [← hm2] at hrg0 hN1 ⊢
  have HM2 := Lib.hid hm2
  clear hb1 hs1 hsz hmk hal HMAP HNEW hm2
  go_loopw [4] (fun _ wr => ∃ (todo es2 : List (Nm × Value)), Ranging encStr wr m (m2 + 1) es todo ∧ MapAt encStr wr m2 es2 ∧
      Hid (∀ k v, mget es2 k = some v → ∃ A c l, v = .slice A l.length c ∧ OB wr m2 A c l ∧ fget F k = some l) ∧
      Hid (∀ k, mget es2 k = none → k ∉ es.map Prod.fst ∨ k ∈ todo.map Prod.fst) ∧ Below w.heap.size w wr) (fun _ wr => wr.rangeLeft m (m2 + 1))
  case atStart =>
    exact ⟨es, [], hrg0, hN1, Lib.hid (fun k v h => by simp [mget] at h), Lib.hid (fun k _ => by by_cases hk : k ∈ es.map Prod.fst; exact .inr hk; exact .inl hk), hB1⟩
  case round =>
    obtain ⟨todo, es2, hrg, hm2', hhit, hmiss, hB⟩ := hrel
    clear hrg0 hN1 hB1
    go_wp2_with (at_next; refine wp_nextT _ (fun c : Option Addr × Nat × Nat => Value.slice c.1 c.2.1 c.2.2) rfl (.tmp 8) rfl rfl hrg HV.out ?_ ?_)
    · intro htodo
      subst htodo
      have HFI : Hid (FI (News w wr) wr m2 F) := Lib.hid ⟨es2, hm2', ⟨fun k v hk => by
        obtain ⟨A, c, l, h1, h2, h3⟩ := hhit.out k v hk
        rw [HM2.out] at h2
        exact ⟨A, c, l, h1, OBS.new h2, h3⟩, fun k hk => by
        rcases hmiss.out k hk with h | h
        · exact HT.out.miss k (mget_none.2 h)
        · simp at h⟩, HF.out, ⟨by rw [HM2.out]; exact Nat.le_refl _, hm2'.lt⟩⟩
      have HFIN : Hid (Ending.returned (.map (some m2)) = .returned (.map (some w.heap.size)) ∧ FI (News w wr) wr w.heap.size F ∧ Below w.heap.size w wr) := Lib.hid (by have hz := HFI.out; rw [HM2.out] at hz ⊢; exact ⟨rfl, hz, hB⟩)
      clear hrg hm2' hhit hmiss hB
      go_wp2_with fail
      go_ret
      exact HFIN.out
    · intro i x cA cl cc w2 hi hrg2 hg2 hs2 hen
      have hx : mget es x = some (.slice cA cl cc) := mget_some_of_mem HNOD.out (hrg.sub.subset (List.mem_of_getElem? hi))
      obtain ⟨A, c, l, hv, hob, hget⟩ := HT.out.hit _ _ hx
      injection hv with hv1 hv2 hv3
      subst hv1 hv2 hv3
      have hB2 : Below w.heap.size w w2 := hB.grown hg2 hB.size (fun b hb => by injection hb with hb; have := HM2.out; omega)
      have hm2w : MapAt encStr w2 m2 es2 := hm2'.grown hg2 (by simp)
      have hob2 : OBS S w2 cA cc l := hob.below hB2
      have HC := Lib.hid (cloneB' cA cc l w2 hob2.1.rb (HS.out x l hget))
      have hlen : (todo.eraseIdx i).length < todo.length := by
        have := (List.getElem?_eq_some_iff.1 hi).1
        rw [List.length_eraseIdx, if_pos this]
        omega
      have HNEW2 : Hid (∀ (A' : Option Addr) (c' : Nat) (w3 w4 : World), OB w3 w2.heap.size A' c' l → Below w2.heap.size w2 w3 → (∀ k, k ≠ m2 → w4.heap[k]? = w3.heap[k]?) → Below w.heap.size w w4 → MapAt encStr w4 m2 (mput es2 x (.slice A' l.length c')) →
          (∃ (todo es2 : List (Nm × Value)), Ranging encStr w4 m (m2 + 1) es todo ∧ MapAt encStr w4 m2 es2 ∧
            Hid (∀ k v, mget es2 k = some v → ∃ A c l, v = .slice A l.length c ∧ OB w4 m2 A c l ∧ fget F k = some l) ∧
            Hid (∀ k, mget es2 k = none → k ∉ es.map Prod.fst ∨ k ∈ todo.map Prod.fst) ∧ Below w.heap.size w w4) ∧ w4.rangeLeft m (m2 + 1) < wr.rangeLeft m (m2 + 1)) := Lib.hid fun A' c' w3 w4 hob3 hb3 hk4 hb4 hm4 => by
        have hr3 := hrg2.below hb3
        have hr4 : Ranging encStr w4 m (m2 + 1) es (todo.eraseIdx i) := hr3.of_blocks (hk4 m (by have := HM2.out; omega)) (hk4 (m2 + 1) (by omega))
        have hsz := hB2.size
        have hm2lt := hm2w.lt
        refine ⟨⟨_, _, hr4, hm4, Lib.hid fun k v hk => ?_, Lib.hid fun k hk => ?_, hb4⟩, by rw [hr4.left_eq, hrg.left_eq]; exact hlen⟩
        · rw [mget_mputV] at hk
          by_cases hkx : k = x
          · rw [if_pos hkx] at hk
            injection hk with hk
            subst hk hkx
            refine ⟨A', c', l, rfl, (hob3.base_le (by omega)).of_block fun b hb => hk4 b ?_, hget⟩
            have := (hob3.blk_lt b hb).1
            omega
          · rw [if_neg hkx] at hk
            obtain ⟨A1, c1, l1, h1, h2, h3⟩ := hhit.out k v hk
            have h2' : OB w2 m2 A1 c1 l1 := h2.of_block fun b hb => hg2.block b (h2.blk_lt b hb).2 (fun e => by
              injection e with e
              obtain ⟨cs, hcs⟩ := h2.blk b hb
              obtain ⟨a1, a2, a3, a4, h4⟩ := hrg.iter
              rw [e, h4] at hcs
              cases hcs)
            exact ⟨A1, c1, l1, h1, (h2'.below hb3).of_block fun b hb => hk4 b (by
              rintro rfl
              obtain ⟨cs, hcs⟩ := h2.blk b hb
              exact hm2'.ne_cells hcs rfl), h3⟩
        · rw [mget_mputV] at hk
          by_cases hkx : k = x
          · rw [if_pos hkx] at hk; cases hk
          · rw [if_neg hkx] at hk
            rcases hmiss.out k hk with h | h
            · exact .inl h
            · by_cases hk2 : k ∈ (todo.eraseIdx i).map Prod.fst
              · exact .inr hk2
              · rcases keys_erase' hrg.nodup hi k hk2 with h' | h'
                · exact absurd h h'
                · exact absurd h' hkx
      have HM := Lib.hid hm2w
      have HB2 := Lib.hid hB2
      clear hhit hmiss hrg hm2' hB hg2 hs2 hlen hrg2 hm2w hB2 hob hob2 hget hx hi
      go_wp2_with fail
      refine HC.out.mono ?_
      rintro e w3 ⟨A', c', rfl, hob3, hb3⟩
      have HM3 := Lib.hid (HM.out.below hb3)
      have HB3 := Lib.hid (HB2.out.trans (hb3.mono HB2.out.size))
      have HO3 := Lib.hid hob3
      have HBB := Lib.hid hb3
      clear hob3 hb3
      go_wp2_with (at_mapUpdate; refine wp_mapUpdateT _ rfl strLaw HM3.out (.tmp 14) (.tmp 15) (.tmp 17) rfl Tryd.underlying67 x (.slice A' l.length c') rfl rfl rfl ?_; intro ob hmap2)
      have HN := Lib.hid (HNEW2.out A' c' w3 _ HO3.out HBB.out (fun k hk => wset_other _ _ ob k hk) (below_wset' HB3.out (by have := HM2.out; omega) ob) hmap2)
      clear hmap2
      go_roundw
      case rel => (repeat apply Exists.intro); exact ⟨HN.out.1, rfl⟩
      case measure => exact HN.out.2
end Go.Proofs.YthdmnajcphaekaaDoor
