/- Put together of: SlotA, OwnV, SlotB. -/
import Derived.Test.YtobdmlejabjmiaaGreatDoorZa10
import Derived.Test.YtobdmlejabjmiaaGreatDoorZa03
import Derived.WalkLawsBesides
import Derived.Lib.AtoiErrMem
import Derived.Test.YtobdmlejabjmiaaGreatDoorZa11
import Derived.Test.YtobdmlejabjmiaaGreatDoorZa12
import Derived.Test.YtobdmlejabjmiaaGreatDoorZa09
import Derived.Deep.QuietTactic
import Derived.Deep.AppendLies
/- Contracts of package slot: a slot in memory; its files' names; did, Load. -/
namespace Go.Proofs.YtobdmlejabjmiaaGreatDoor
open Go.RowKit
open Go.Lib (parseUintB decDigits hasPrefix trimPrefix)

theorem cutPre (f x : List UInt8) (w : World) : Calls Tryz.prog 121 #[.string ⟨f.toArray⟩, .string ⟨x.toArray⟩] w fun e w' => e = .returned (.tuple #[.string ⟨(trimPrefix f x).toArray⟩, .bool (hasPrefix f x)]) ∧ w' = w := Tryz.strings_CutPrefix ⟨f.toArray⟩ ⟨x.toArray⟩ w

abbrev TS : TypeId := 108
section
variable {w : World} {p B : Nat} {cs : Array Value} {b : List UInt8}
set_option maxRecDepth 20000 in
set_option maxHeartbeats 2000000 in
theorem slotFile (hb : Blk w p TS cs) (h1 : cs[1]? = some (.string ⟨b.toArray⟩)) (hbl : b.length ≤ 8) (n : Nat) (hn : n < 18446744073709551616) (hE : SEnv B w) (hB : B ≤ w.heap.size) :
    Calls Tryz.prog 63 #[.pointer (some ⟨p, 0, none⟩), .int .u64 (n : Int)] w fun e w' => e = .returned (.string ⟨(fileN b n).toArray⟩) ∧ Below w.heap.size w w' := by
  have hcat := concatB b [46] (by simp; omega)
  have hdl : (decDigits n).length ≤ 20 := by rw [Go.Lib.decDigits_length]; exact nDigits_le hn
  have hcat2 := concatB (b ++ [46]) (decDigits n) (by simp; omega)
  have hn0 : (0 : Int) ≤ (n : Int) := by omega
  have hn1 : (n : Int) ≤ 18446744073709551615 := by omega
  have HE := Lib.hid hE
  have HBL := Lib.hid hb
  have HC1 := Lib.hid h1
  clear hE hb hdl h1 hbl
  go_enter Tryz.func63, Tryz.ntmps63
  go_wp2_with fail
  refine wp_region_planE_gen (by kernel_rfl) [(0, none), (1, none), (2, none), (3, none), (4, none), (5, none), (6, some [5]), (7, none), (8, none)] (by kernel_rfl) (by kernel_rfl) (by decide) ?_
  intro wq hwq
  have hBq : Below w.heap.size w wq := by rw [hwq]; exact (Below.refl _ _).drew
  have c1 := (HBL.out.kept hBq).cell 1 HC1.out
  clear hwq
  iterate 3 (refine planE_pure (v := ?_) rfl (by rfl) (fun w' => ?_) ?_; rotate_left; (focus (simp only [List.getElem_toArray, List.getElem_cons_succ, List.getElem_cons_zero]; go_simp; first | with_reducible rfl | (simp (disch := omega) only [if_pos, if_neg, dif_pos, Result.andThen_ok]; try with_reducible rfl) | skip)); try simp only [List.getElem_toArray, List.getElem_cons_succ, List.getElem_cons_zero, Act.put, List.setIfInBounds_toArray, List.set_cons_zero, List.set_cons_succ])
  refine planE_cells (v := ?_) [(⟨p, 1, none⟩, .string ⟨b.toArray⟩)] (by simp; and_intros <;> assumption) rfl (by rfl) (fun w' hw' => ?_) ?_; rotate_left; (focus (simp only [List.forall_mem_cons, List.not_mem_nil, false_imp_iff, implies_true, and_true] at hw'; simp only [List.getElem_toArray, List.getElem_cons_succ, List.getElem_cons_zero]; go_simp; first | with_reducible rfl | (simp (disch := omega) only [if_pos, if_neg, dif_pos, Result.andThen_ok]; try with_reducible rfl) | skip)); try simp only [List.getElem_toArray, List.getElem_cons_succ, List.getElem_cons_zero, Act.put, List.setIfInBounds_toArray, List.set_cons_zero, List.set_cons_succ]
  iterate 2 (refine planE_pure (v := ?_) rfl (by rfl) (fun w' => ?_) ?_; rotate_left; (focus (simp only [List.getElem_toArray, List.getElem_cons_succ, List.getElem_cons_zero]; go_simp; first | with_reducible rfl | (simp (disch := omega) only [if_pos, if_neg, dif_pos, Result.andThen_ok]; try with_reducible rfl) | skip)); try simp only [List.getElem_toArray, List.getElem_cons_succ, List.getElem_cons_zero, Act.put, List.setIfInBounds_toArray, List.set_cons_zero, List.set_cons_succ])
  refine planE_eff rfl (by rfl) (fun K hK => ?_)
  go_simp
  refine (fmtUint (n : Int) hn0 hn1 wq (HE.out.pow wq (hBq.mono hB))).mono ?_
  rintro e w1 ⟨rfl, hb1⟩
  rw [udec_nat]
  have hB1 := hBq.trans (hb1.mono hBq.size)
  clear hb1 c1
  have c1 := (HBL.out.kept hB1).cell 1 HC1.out
  refine hK _ _ (by first | (simp <;> (and_intros <;> first | trivial | assumption)) | (simp [owed] <;> (and_intros <;> first | trivial | assumption)) | (simp [owed, left] <;> (and_intros <;> first | trivial | assumption))) ?_
  clear hK K
  try simp only [List.getElem_toArray, List.getElem_cons_succ, List.getElem_cons_zero, Act.put, List.setIfInBounds_toArray, List.set_cons_zero, List.set_cons_succ]
  iterate 2 (refine planE_pure (v := ?_) rfl (by rfl) (fun w' => ?_) ?_; rotate_left; (focus (simp only [List.getElem_toArray, List.getElem_cons_succ, List.getElem_cons_zero]; go_simp; first | with_reducible rfl | (simp (disch := omega) only [if_pos, if_neg, dif_pos, Result.andThen_ok]; try with_reducible rfl) | skip)); try simp only [List.getElem_toArray, List.getElem_cons_succ, List.getElem_cons_zero, Act.put, List.setIfInBounds_toArray, List.set_cons_zero, List.set_cons_succ])
  refine planE_end ?_
  have HFE : Hid (fileN b n = b ++ 46 :: decDigits n) := Lib.hid (by unfold fileN; simp)
  go_wp2_with fail
  go_ret
  exact ⟨by rw [HFE.out]; rfl, hB1⟩
/-- What number answers. -/
def SNumE (o : Option Nat) (w : World) (e : Ending) (w' : World) : Prop :=
  Below w.heap.size w w' ∧ ∃ x : Int, e = .returned (.tuple #[.int .u64 x, .bool o.isSome]) ∧ ∀ n, o = some n → x = (n : Int)
set_option maxRecDepth 20000 in
set_option maxHeartbeats 2000000 in
theorem slotNumber (hb : Blk w p TS cs) (h1 : cs[1]? = some (.string ⟨b.toArray⟩)) (hbl : b.length ≤ 8) (f : List UInt8) (hf : f.length ≤ 1000) (hE : SEnv B w) :
    Calls Tryz.prog 58 #[.pointer (some ⟨p, 0, none⟩), .string ⟨f.toArray⟩] w (SNumE (numN b f) w) := by
  have hcat := concatB b [46] (by simp; omega)
  have c1 := hb.cell 1 h1
  have CP := Lib.hid (cutPre f (b ++ [46]) w)
  have hlt : (trimPrefix f (b ++ [46])).length ≤ 140737488351232 := by
    unfold trimPrefix
    split
    · rw [List.length_drop]; omega
    · omega
  have PU := Lib.hid (parseS (trimPrefix f (b ++ [46])) B w hlt hE)
  obtain ⟨o, ho⟩ : ∃ o, o = numN b f := ⟨_, rfl⟩
  rw [← ho]
  unfold numN at ho
  clear hE hlt hb h1 hbl hf
  cases hp : hasPrefix f (b ++ [46]) with
  | false =>
    rw [hp] at CP
    rw [hp, if_neg (by simp)] at ho
    have HO := Lib.hid ho
    clear ho hp
    go_enter Tryz.func58, Tryz.ntmps58
    go_wp2_with (go_at_call 121; refine CP.out.mono ?_)
    first | rintro e w1 ⟨rfl, rfl⟩ | rintro e w1 rfl rfl
    clear CP
    go_wp2_with (go_at_call 122; refine PU.out.mono ?_)
    rintro e w1 ⟨hb1, ⟨u, hu, rfl⟩ | ⟨hu, x, N, rfl⟩⟩
    all_goals
      have HB1 := Lib.hid hb1
      clear hb1 hu PU
      go_wp2_with fail
      go_quiet (fail)
      go_wp2_with fail
      go_ret2
      exact ⟨HB1.out.trans ((⟨rfl, rfl, rfl, Nat.le_refl _, fun _ _ => rfl⟩ : Below w1.heap.size w1 (w1.drewN _)).mono HB1.out.size), _, by rw [HO.out]; rfl, fun n hn => by rw [HO.out] at hn; cases hn⟩
  | true =>
    rw [hp] at CP
    rw [hp, if_pos rfl] at ho
    have HO := Lib.hid ho
    clear ho hp
    go_enter Tryz.func58, Tryz.ntmps58
    go_wp2_with (go_at_call 121; refine CP.out.mono ?_)
    first | rintro e w1 ⟨rfl, rfl⟩ | rintro e w1 rfl rfl
    clear CP
    go_wp2_with (go_at_call 122; refine PU.out.mono ?_)
    rintro e w1 ⟨hb1, ⟨u, hu, rfl⟩ | ⟨hu, x, N, rfl⟩⟩
    · have HO2 : Hid (o = some u) := Lib.hid (by rw [HO.out, hu])
      have HB1 := Lib.hid hb1
      clear hb1 hu PU HO
      go_wp2_with fail
      go_quiet (fail)
      go_wp2_with fail
      go_ret2
      exact ⟨HB1.out.trans ((⟨rfl, rfl, rfl, Nat.le_refl _, fun _ _ => rfl⟩ : Below w1.heap.size w1 (w1.drewN _)).mono HB1.out.size), _, by rw [HO2.out]; rfl, fun n hn => by rw [HO2.out] at hn; injection hn with hn; rw [hn]⟩
    · have HO2 : Hid (o = none) := Lib.hid (by
        rw [HO.out]
        split
        · rename_i u h; exact absurd h (hu u)
        · rfl)
      have HB1 := Lib.hid hb1
      clear hb1 hu PU HO
      go_wp2_with fail
      go_quiet (fail)
      go_wp2_with fail
      go_ret2
      exact ⟨HB1.out.trans ((⟨rfl, rfl, rfl, Nat.le_refl _, fun _ _ => rfl⟩ : Below w1.heap.size w1 (w1.drewN _)).mono HB1.out.size), _, by rw [HO2.out]; rfl, fun n hn => by rw [HO2.out] at hn; cases hn⟩
set_option maxHeartbeats 2000000 in
theorem slotDid (hb : Blk w p TS cs) (d : Bool) (h1 : cs[6]? = some (.bool d)) (e0 : Int) :
    Calls Tryz.prog 88 #[.pointer (some ⟨p, 0, none⟩), .int .i64 e0] w fun e w' => e = .returned (.int .i64 e0) ∧ w' = w.setCell ⟨p, 6, none⟩ (.bool (d || decide (e0 = 11))) := by
  have c6 := hb.cell 6 h1
  have f6 := hb.free 6
  clear hb h1
  cases d
  · by_cases he : e0 = 11
    · subst he
      go_enter Tryz.func88, Tryz.ntmps88
      go_wp2_with fail
      go_ret
      exact ⟨rfl, rfl⟩
    · have heb : (e0 == 11) = false := by simpa using he
      have hed : decide (e0 = 11) = false := by simpa using he
      rw [hed]
      clear hed
      go_enter Tryz.func88, Tryz.ntmps88
      go_wp2_with fail
      go_ret
      exact ⟨rfl, rfl⟩
  · go_enter Tryz.func88, Tryz.ntmps88
    go_wp2_with fail
    go_ret
    exact ⟨rfl, rfl⟩
end
end Go.Proofs.YtobdmlejabjmiaaGreatDoor


/- Rows of the call's own across what a call changes; parts of them; blocks of unlike kinds. -/
namespace Go.Proofs.YtobdmlejabjmiaaGreatDoor
open Go.RowKit

theorem OV.mods {S : Nat → Prop} {w a : World} {base c : Nat} {e : TypeId} {A : Option Addr} {xs : List Value} (h : OV w base e A c xs) (m : Mods S w a) (hn : ∀ k, A.map (·.block) = some k → ¬ S k) : OV a base e A c xs := by
  refine ⟨h.1, ?_⟩
  rcases h.2 with h2 | ⟨g, cap, cur, hv, hg, hh, r⟩
  · exact .inl h2
  · injection hv with hv1 hv2 hv3
    subst hv1 hv3
    exact .inr ⟨g, _, cur, rfl, hg, by rw [m.block g (lt_of_block hh) (hn g rfl)]; exact hh, r⟩
theorem OV.ne_blk {w : World} {B g c : Nat} {e T : TypeId} {cs : Array Value} {A : Option Addr} {xs : List Value} (h : OV w B e A c xs) (hb : Blk w g T cs) (hT : T ≠ e) : A.map (·.block) ≠ some g := by
  rcases h.2 with ⟨hv, _⟩ | ⟨g', cap, cur, hv, _, hg, _⟩
  · injection hv with h1 _ _; subst h1; simp
  · injection hv with h1 _ _; subst h1
    intro e'
    have e' : g' = g := by simpa using e'
    subst e'
    have hb' : w.heap[g']? = _ := hb
    rw [hg] at hb'
    injection hb' with hb'
    injection hb' with _ ht
    exact hT ht.symm
theorem OB.ne_blk {w : World} {B g c : Nat} {T : TypeId} {cs : Array Value} {A : Option Addr} {l : List UInt8} (h : OB w B A c l) (hb : Blk w g T cs) (hT : T ≠ 5) : A.map (·.block) ≠ some g := by
  rcases h.2 with ⟨hv, _⟩ | ⟨g', cap, cur, hv, _, hg, _⟩
  · injection hv with h1 _ _; subst h1; simp
  · injection hv with h1 _ _; subst h1
    intro e'
    have e' : g' = g := by simpa using e'
    subst e'
    have hb' : w.heap[g']? = _ := hb
    rw [hg] at hb'
    injection hb' with hb'
    injection hb' with _ ht
    exact hT ht.symm
theorem OV.blk_lt {w : World} {B c : Nat} {e : TypeId} {A : Option Addr} {xs : List Value} (h : OV w B e A c xs) : ∀ k, A.map (·.block) = some k → B ≤ k ∧ k < w.heap.size := fun k hk => h.own_lt k (by cases A <;> simp_all [Value.ownBlock])
theorem OB.blk_in {w : World} {B c : Nat} {A : Option Addr} {l : List UInt8} (h : OB w B A c l) : ∀ k, A.map (·.block) = some k → B ≤ k ∧ k < w.heap.size := fun k hk => h.own_lt k (by cases A <;> simp_all [Value.ownBlock])
theorem OV.take {w : World} {B c : Nat} {e : TypeId} {A : Option Addr} {xs : List Value} (h : OV w B e A c xs) (n : Nat) : OV w B e A c (xs.take n) := by
  have hl : (xs.take n).length ≤ xs.length := by rw [List.length_take]; omega
  refine ⟨by simp, ?_⟩
  rcases h.2 with ⟨hv, h0⟩ | ⟨g, cap, cur, hv, hg, hh, r1, r2, r3, r4⟩
  · injection hv with h1 h2 h3
    subst h1 h3
    have : xs.take n = [] := List.eq_nil_of_length_eq_zero (by omega)
    rw [this]
    exact .inl ⟨rfl, rfl⟩
  · injection hv with h1 h2 h3
    subst h1 h3
    refine .inr ⟨g, _, cur, rfl, hg, hh, by omega, r2, r3, ?_⟩
    rw [Nat.mul_one] at r4 ⊢
    have e5 : xs.take n = cur.toList.take (min n xs.length) := by
      conv => lhs; rw [← r4]
      rw [List.take_take]
    rw [List.length_take, e5]
theorem OV.cells {w : World} {B c : Nat} {e : TypeId} {A : Option Addr} {xs : List Value} (h : OV w B e A c xs) : A = none ∨ ∃ g cs, A = some ⟨g, 0, none⟩ ∧ Blk w g e cs := by
  rcases h.2 with ⟨hv, h0⟩ | ⟨g, cap, cur, hv, _, hg, _⟩
  · injection hv with h1 h2 h3; exact .inl h1
  · injection hv with h1 h2 h3; exact .inr ⟨g, cur, h1, hg⟩
theorem OB.cells {w : World} {B c : Nat} {A : Option Addr} {l : List UInt8} (h : OB w B A c l) : A = none ∨ ∃ g cs, A = some ⟨g, 0, none⟩ ∧ Blk w g 5 cs := by
  rcases h.2 with ⟨hv, h0⟩ | ⟨g, cap, cur, hv, _, hg, _⟩
  · injection hv with h1 h2 h3; exact .inl h1
  · injection hv with h1 h2 h3; exact .inr ⟨g, cur, h1, hg⟩
theorem Blk.ne {w : World} {g k : Nat} {T U : TypeId} {cs ds : Array Value} (h : Blk w g T cs) (h' : Blk w k U ds) (hT : T ≠ U) : g ≠ k := by
  rintro rfl
  have h1 : w.heap[g]? = _ := h
  have h2 : w.heap[g]? = _ := h'
  rw [h1] at h2
  injection h2 with h2
  injection h2 with _ h2
  exact hT h2
theorem OV.lit1 (w : World) {base : Nat} (hb : base ≤ w.heap.size) (v : Value) (T : TypeId) : OV (w.alloc (.cells #[v] T)) base T (some ⟨w.heap.size, 0, none⟩) 1 [v] :=
  World.ownsRow_lit w #[v] 1 hb (by unfold maxLen; omega) rfl
/-- 'append(s, x...)', elements of one cell each: the row that it was appended to still holds what it held. -/
theorem run_append_keep {P : Program} (w : World) (t ty e : TypeId) {i : TypeInfo} {z : Value} (ht : P.underlying t = some (.slice e)) (hi : P.info? e = some i) (hz : i.zero = some z) (hz1 : i.size = 1) (hzs : z.cells.size = 1)
    (base : Nat) (A : Option Addr) (c : Nat) (xs : List Value) (hown : OV w base e A c xs) (ad : Addr) (m d : Nat) (news : List Value) (hl : news.length = m) (hm : 0 < m) (hnews : ∀ j u, news[j]? = some u → w.cell? (ad.add j) = some u) (h1 : ∀ u ∈ news, u.oneCell' = true)
    (h63 : xs.length + m ≤ 140737488355328) (hbytes : (xs.length + m) * i.bytes ≤ 140737488355328) (hbase : base ≤ w.heap.size) :
    ∃ (g c' : Nat) (w' : World), (Builtin.append_ #[t, t] ty #[.slice A xs.length c, .slice (some ad) m d]).run P w = .ok (.slice (some ⟨g, 0, none⟩) (xs ++ news).length c') w' ∧ OV w' base e (some ⟨g, 0, none⟩) c' (xs ++ news) ∧ OV w' base e A c xs ∧
      w.grownBy w' (A.map (·.block)) ∧ (A.map (·.block) = some g ∨ g = w.heap.size) := by
  have hlm : (xs ++ news).length = xs.length + m := by rw [List.length_append, hl]
  obtain ⟨v', w', hr, h2, h3, _, h5⟩ := run_append_own_at (P := P) w base t ty e i z 1 i.bytes ht hi hz hz1 rfl hzs (by decide) (.slice A xs.length c) xs.length xs hown ad m d news (by omega) hnews h1 (by unfold maxLen; omega) hbytes hbase
  obtain ⟨g, c', rfl, _, _⟩ := h2.form (by omega)
  have ho : Value.ownBlock (.slice A xs.length c) = A.map (·.block) := by cases A <;> rfl
  rw [ho] at h3 h5
  refine ⟨g, c', w', by rw [hlm]; exact hr, by unfold OV; rw [hlm]; exact h2, ?_, h3, ?_⟩
  · rcases hown.2 with ⟨hv, h0⟩ | ⟨b, cap, cur, hv, hbg, hg, hnc, hcm, hcs, htake⟩
    · injection hv with e1 _ e3
      subst e1 e3
      have : xs = [] := List.eq_nil_of_length_eq_zero h0
      subst this
      exact World.ownsRow_nil _ _ _ _
    · injection hv with e1 _ e3
      subst e1 e3
      by_cases hroom : xs.length + m ≤ c
      · have hfit : xs.length * i.size + news.length ≤ cur.size := by rw [hz1, hcs]; omega
        have hr' := run_append_room (P := P) w t ty e i ht hi b xs.length c cur hg ad m d news (by rw [hz1]; omega) hnews h1 hroom hfit
        rw [hr] at hr'
        injection hr' with _ hw
        subst hw
        refine ⟨hown.1, .inr ⟨b, c, _, rfl, hbg, setRow_heap w b cur _ e _ hg, hnc, hcm, ?_, ?_⟩⟩
        · simp only [List.size_toArray, List.length_append, List.length_take, List.length_drop, Array.length_toList]
          rw [hz1] at hfit ⊢
          omega
        · rw [hz1]
          rw [Nat.mul_one] at htake ⊢
          have e4 : (cur.toList.take xs.length).length = xs.length := by rw [htake]
          rw [List.append_assoc, List.take_append_of_le_length (by omega), List.take_take, Nat.min_self, htake]
      · have holds : ∀ j u, xs[j]? = some u → w.cell? ((⟨b, 0, none⟩ : Addr).add j) = some u := World.ownsRow.cells hown (g := b) rfl
        have hr' := run_append_grow (P := P) w t ty e i z ht hi hz ⟨b, 0, none⟩ xs.length c xs (by rw [hz1]; omega) holds ad m d news (by rw [hz1]; omega) hnews (by omega) (by omega) (growslice_fits (by omega) hbytes)
        rw [hr] at hr'
        injection hr' with _ hw
        subst hw
        refine ⟨hown.1, .inr ⟨b, c, cur, rfl, hbg, ?_, hnc, hcm, hcs, htake⟩⟩
        have hbl : b < w.drew.heap.size := lt_of_block hg
        exact (heap_alloc_old w.drew _ hbl).trans hg
  · rcases h5 with h5 | h5
    · exact .inl (by rw [← h5]; rfl)
    · right
      have : g = w.heap.size := by simpa [Value.ownBlock] using h5
      exact this
/-- The same at the operation. -/
theorem op_appendK (w : World) {o : Oper} {a : Act} {N : Act → World → Prop} {Q : Exit → Act → World → Prop} (s x : Operand) (t e : TypeId) {i : TypeInfo} {z : Value} {bytes : Nat}
    (ho : o.op = .call { callee := .builtin .append, args := #[s, x], argTypes := #[t, t] })
    (ht : Tryz.prog.underlying t = some (.slice e)) (hi : Tryz.prog.info? e = some i) (hz0 : i.zero = some z) (hz1 : i.size = 1) (hz2 : i.bytes = bytes) (hzs : z.cells.size = 1)
    (base : Nat) (A : Option Addr) (c d b : Nat) (xs : List Value) (v : Value) (hs : a.eval s = .slice A xs.length c) (hx : a.eval x = .slice (some ⟨b, 0, none⟩) 1 d)
    (hown : OV w base e A c xs) (hv : w.cell? ⟨b, 0, none⟩ = some v) (h1 : v.oneCell' = true) (hlen : (xs.length + 1) * bytes ≤ 140737488355328) (hl2 : xs.length + 1 ≤ 140737488355328) (hbase : base ≤ w.heap.size)
    (h : ∀ (ys : List Value) (n g c' : Nat) (w' : World), Hid (ys = xs ++ [v]) → n = xs.length + 1 → OV w' base e (some ⟨g, 0, none⟩) c' (xs ++ [v]) → OV w' base e A c xs → w.grownBy w' (A.map (·.block)) → (A.map (·.block) = some g ∨ g = w.heap.size) →
      N (a.put o.dst (.slice (some ⟨g, 0, none⟩) n c')) w') : o.wp Tryz.prog a w N Q := by
  subst hz2
  obtain ⟨g, c', w', hr, h2, h3, h4, h5⟩ := run_append_keep (P := Tryz.prog) w t o.type e ht hi hz0 hz1 hzs base A c xs hown ⟨b, 0, none⟩ 1 d [v] rfl (by decide) (fun j u hj => by
    cases j with
    | zero => simp at hj; subst hj; exact hv
    | succ j => simp at hj) (fun u hu => by rw [List.mem_singleton.1 hu]; exact h1) hl2 hlen hbase
  unfold Oper.wp
  rw [List.length_append, List.length_singleton] at hr
  simp only [execOp, ho, resolve, invoke, builtin, Sem.run_bind, Sem.run_pure, Result.andThen_ok, List.map_toArray, List.map_cons, List.map_nil, hs, hx, hr]
  exact h (xs ++ [v]) _ g c' w' (Lib.hid rfl) rfl h2 h3 h4 h5
/-- The same at the walk. -/
theorem wp_appendK (w : World) {ops : Array Oper} {rest : List Oper} {o : Oper} {a : Act} {Q : Exit → Act → World → Prop} (hgd : o.guard = none) (s x : Operand) (t e : TypeId) {i : TypeInfo} {z : Value} {bytes : Nat}
    (ho : o.op = .call { callee := .builtin .append, args := #[s, x], argTypes := #[t, t] })
    (ht : Tryz.prog.underlying t = some (.slice e)) (hi : Tryz.prog.info? e = some i) (hz0 : i.zero = some z) (hz1 : i.size = 1) (hz2 : i.bytes = bytes) (hzs : z.cells.size = 1)
    (base : Nat) (A : Option Addr) (c d b : Nat) (xs : List Value) (v : Value) (hs : a.eval s = .slice A xs.length c) (hx : a.eval x = .slice (some ⟨b, 0, none⟩) 1 d)
    (hown : OV w base e A c xs) (hv : w.cell? ⟨b, 0, none⟩ = some v) (h1 : v.oneCell' = true) (hlen : (xs.length + 1) * bytes ≤ 140737488355328) (hl2 : xs.length + 1 ≤ 140737488355328) (hbase : base ≤ w.heap.size)
    (h : ∀ (ys : List Value) (n g c' : Nat) (w' : World), Hid (ys = xs ++ [v]) → n = xs.length + 1 → OV w' base e (some ⟨g, 0, none⟩) c' (xs ++ [v]) → OV w' base e A c xs → w.grownBy w' (A.map (·.block)) → (A.map (·.block) = some g ∨ g = w.heap.size) →
      wpList Tryz.prog ops Q rest (a.put o.dst (.slice (some ⟨g, 0, none⟩) n c')) w') : wpList Tryz.prog ops Q (o :: rest) a w := by
  exact wpList_plain hgd fun K hK => op_appendK w s x t e ho ht hi hz0 hz1 hz2 hzs base A c d b xs v hs hx hown hv h1 hlen hl2 hbase fun ys n g c' w' k1 k2 k3 k4 k5 k6 => hK _ _ (h ys n g c' w' k1 k2 k3 k4 k5 k6)
end Go.Proofs.YtobdmlejabjmiaaGreatDoor


/- Contracts of package slot: a slot and its disk in memory; clean, Load. -/
namespace Go.Proofs.YtobdmlejabjmiaaGreatDoor
open Go.RowKit

abbrev slotV (g : Nat) (s : Sl) (V : Option Addr) (cv : Nat) (O : Option Addr) (co : Nat) : Array Value :=
  #[.pointer (some ⟨g, 0, none⟩), .string ⟨s.base.toArray⟩, .int .u64 (s.last : Int), .slice V s.value.length cv, .bool s.has, .slice O s.old.length co, .bool s.down]
/-- A slot and its disk in memory: p is the slot's, g the disk's; S are the blocks of the disk. -/
structure SR (B : Nat) (S : Nat → Prop) (w : World) (p g : Nat) (s : Sl) (D : DSt) (V : Option Addr) (cv : Nat) (O : Option Addr) (co : Nat) : Prop where
  blk : Blk w p TS (slotV g s V cv O co)
  di : DI S w g D
  val : OB w B V cv s.value
  old : OV w B 9 O co (s.old.map encStr)
  ge : B ≤ p
  sge : ∀ b, S b → B ≤ b
  ps : ¬ S p
  vs : ∀ b, V.map (·.block) = some b → ¬ S b
  os : ∀ b, O.map (·.block) = some b → ¬ S b
  bl : s.base.length ≤ 8
  on : ∀ f ∈ s.old, f.length ≤ 1000
section
variable {B p g cv co : Nat} {S : Nat → Prop} {w w' : World} {s s' : Sl} {D D' : DSt} {V O : Option Addr}
theorem SR.below (h : SR B S w p g s D V cv O co) (hb : Below w.heap.size w w') : SR B S w' p g s D V cv O co :=
  ⟨h.blk.kept hb, h.di.below hb, h.val.below hb, h.old.below hb, h.ge, h.sge, h.ps, h.vs, h.os, h.bl, h.on⟩
/-- Behind a call of the disk. -/
theorem SR.disk (h : SR B S w p g s D V cv O co) (hB : B ≤ w.heap.size) (hd : DI (Sx S w w') w' g D') (m : Mods S w w') : SR B (Sx S w w') w' p g s D' V cv O co :=
  ⟨h.blk.mods m h.ps, hd, h.val.mods m h.vs, h.old.mods m h.os, h.ge, fun b hb => by
    rcases hb with hb | hb
    · exact h.sge b hb
    · have := hb.1; omega, fun hb => by
    rcases hb with hb | hb
    · exact h.ps hb
    · have := hb.1; have := h.blk.lt; omega, fun b hb hs => by
    rcases hs with hs | hs
    · exact h.vs b hb hs
    · have := hs.1; have := (h.val.blk_in b hb).2; omega, fun b hb hs => by
    rcases hs with hs | hs
    · exact h.os b hb hs
    · have := hs.1; have := (h.old.blk_lt b hb).2; omega, h.bl, h.on⟩
/-- A store into the slot's own variable. -/
theorem SR.set (h : SR B S w p g s D V cv O co) (j : Nat) (v : Value) (hrow : (slotV g s V cv O co).setIfInBounds j v = slotV g s' V cv O co) (e1 : s'.value = s.value) (e2 : s'.old = s.old) (e3 : s'.base = s.base) : SR B S (w.setCell ⟨p, j, none⟩ v) p g s' D V cv O co := by
  have m : Mods (· = p) w (w.setCell ⟨p, j, none⟩ v) := (Mods.refl (· = p) w).setCell ⟨p, _, none⟩ (.inl rfl) _
  have hb := h.blk.setCell j v
  rw [hrow] at hb
  exact ⟨hb, h.di.mods m (fun b _ hs e => h.ps (by rw [← e]; exact hs)), by rw [e1]; exact h.val.mods m (fun k hk e => h.val.ne_blk h.blk (by decide) (by rw [hk, e])), by rw [e2]; exact h.old.mods m (fun k hk e => h.old.ne_blk h.blk (by decide) (by rw [hk, e])), h.ge, h.sge, h.ps, h.vs, h.os, by rw [e3]; exact h.bl, by rw [e2]; exact h.on⟩
/-- Another row of names. -/
theorem SR.setOld (h : SR B S w p g s D V cv O co) {O' : Option Addr} {co' : Nat} {l : List Nm} (ho : OV w B 9 O' co' (l.map encStr)) (hs : ∀ b, O'.map (·.block) = some b → ¬ S b) (hl : ∀ f ∈ l, f.length ≤ 1000) : SR B S (w.setCell ⟨p, 5, none⟩ (.slice O' l.length co')) p g { s with old := l } D V cv O' co' := by
  have m : Mods (· = p) w (w.setCell ⟨p, 5, none⟩ (.slice O' l.length co')) := (Mods.refl (· = p) w).setCell ⟨p, _, none⟩ (.inl rfl) _
  exact ⟨h.blk.setCell 5 _, h.di.mods m (fun b _ hs e => h.ps (by rw [← e]; exact hs)), h.val.mods m (fun k hk e => h.val.ne_blk h.blk (by decide) (by rw [hk, e])), ho.mods m (fun k hk e => ho.ne_blk h.blk (by decide) (by rw [hk, e])), h.ge, h.sge, h.ps, h.vs, hs, h.bl, hl⟩
/-- Another value. -/
theorem SR.setVal (h : SR B S w p g s D V cv O co) {V' : Option Addr} {cv' : Nat} {l : List UInt8} (ho : OB w B V' cv' l) (hs : ∀ b, V'.map (·.block) = some b → ¬ S b) : SR B S (w.setCell ⟨p, 3, none⟩ (.slice V' l.length cv')) p g { s with value := l } D V' cv' O co := by
  have m : Mods (· = p) w (w.setCell ⟨p, 3, none⟩ (.slice V' l.length cv')) := (Mods.refl (· = p) w).setCell ⟨p, _, none⟩ (.inl rfl) _
  exact ⟨h.blk.setCell 3 _, h.di.mods m (fun b _ hs e => h.ps (by rw [← e]; exact hs)), ho.mods m (fun k hk e => ho.ne_blk h.blk (by decide) (by rw [hk, e])), h.old.mods m (fun k hk e => h.old.ne_blk h.blk (by decide) (by rw [hk, e])), h.ge, h.sge, h.ps, hs, h.os, h.bl, h.on⟩
/-- What a call of the slot ends in. -/
def SDone (B : Nat) (S : Nat → Prop) (w : World) (V0 : Option Addr) (p g : Nat) (v : Value) (s' : Sl) (D' : DSt) (e : Ending) (w' : World) : Prop :=
  e = .returned v ∧ ∃ (S' : Nat → Prop) (V : Option Addr) (cv : Nat) (O : Option Addr) (co : Nat), SR B S' w' p g s' D' V cv O co ∧ (∀ b, S' b → S b ∨ w.heap.size ≤ b) ∧ Mods (fun b => S b ∨ b = p) w w' ∧ ∀ b, V.map (·.block) = some b → V0.map (·.block) = some b ∨ w.heap.size ≤ b
theorem change_cnt (D : DSt) (c : Wr) (off : Int) : (changeD D c off).2.cnt ≤ D.cnt + 1 := by
  unfold changeD
  split
  · exact Nat.le_succ _
  · split
    · simp only [DSt.cnt, burnD_sure, burnD_unsure]; omega
    · simp only [DSt.cnt, burnD_sure, burnD_unsure, List.length_append, List.length_cons, List.length_nil]; omega
theorem do_len (F : FS) (c : Wr) : (doF F c).length ≤ F.length + 1 := by
  unfold doF
  split
  · exact fset_len _ _ _
  · split
    · exact fset_len _ _ _
    · split
      · unfold fdel; have := List.length_filter_le (fun p : Nm × List UInt8 => decide (p.1 ≠ c.name)) F; omega
      · omega
theorem change_files (D : DSt) (c : Wr) (off : Int) : (changeD D c off).2.files.length ≤ D.files.length + 1 := by
  unfold changeD
  split
  · exact Nat.le_succ _
  · split
    · rw [burnD_files]; omega
    · have e : ({ burnD D with unsure := (burnD D).unsure ++ [c] } : DSt).files = doF D.files c := by
        unfold DSt.files
        simp only [burnD_sure, burnD_unsure, List.foldl_append, List.foldl_cons, List.foldl_nil]
      rw [e]
      exact do_len _ _
theorem sync_cnt (D : DSt) : (syncD D).2.cnt ≤ D.cnt + D.files.length := by
  unfold syncD
  split
  · exact Nat.le_add_right _ _
  · split
    · simp only [DSt.cnt, burnD_sure, burnD_unsure]; omega
    · simp only [DSt.cnt, List.length_nil]; omega

/-- Where clean's loop stands. -/
def CleanAt (B : Nat) (S : Nat → Prop) (w : World) (p g : Nat) (s : Sl) (D : DSt) (V : Option Addr) (cv : Nat) (O : Option Addr) (co : Nat) (k : Nat) (wr : World) : Prop :=
  ∃ (S' : Nat → Prop) (Dk : DSt), SR B S' wr p g s Dk V cv O co ∧ (∀ b, S' b → S b ∨ w.heap.size ≤ b) ∧ Mods (fun b => S b ∨ b = p) w wr ∧ cleanL s.old D = cleanL (s.old.drop k) Dk ∧ Dk.cnt ≤ D.cnt + k
set_option maxRecDepth 20000 in
set_option maxHeartbeats 4000000 in
theorem slotClean (h : SR B S w p g s D V cv O co) (hB : B ≤ w.heap.size) (hcnt : D.cnt + s.old.length ≤ 1000000) :
    Calls Tryz.prog 64 #[.pointer (some ⟨p, 0, none⟩)] w
      (SDone B S w V p g (.int .i64 (cleanD s.old D).1) { s with old := if (cleanL s.old D).1 = 0 then [] else s.old, down := s.down || decide ((cleanD s.old D).1 = 11) } (cleanD s.old D).2) := by
  have c5 : w.cell? ⟨p, 5, none⟩ = some (.slice O s.old.length co) := h.blk.cell 5 rfl
  obtain ⟨r, hr⟩ : ∃ r, r = cleanD s.old D := ⟨_, rfl⟩
  obtain ⟨s1, hs1⟩ : ∃ s1 : Sl, s1 = { s with old := if (cleanL s.old D).1 = 0 then [] else s.old, down := s.down || decide (r.1 = 11) } := ⟨_, rfl⟩
  rw [← hr, ← hs1]
  have HRR := Lib.hid hr
  have HS1 := Lib.hid hs1
  clear hr hs1
  by_cases h0 : s.old = []
  · have HF : Hid (SDone B S w V p g (.int .i64 r.1) s1 r.2 (.returned (.int .i64 0)) w) := Lib.hid (by
      have er : r = (0, D) := by rw [HRR.out]; unfold cleanD; rw [if_pos h0]
      have e : s1 = s := by
        rw [HS1.out, er]
        obtain ⟨a1, a2, a3, a4, a5, a6⟩ := s
        simp only at h0
        subst h0
        simp
      rw [e, er]
      exact ⟨rfl, S, V, cv, O, co, h, fun b hb => .inl hb, Mods.refl _ _, fun _ h => .inl h⟩)
    rw [show s.old.length = 0 from by rw [h0]; rfl] at c5
    clear h h0 hcnt HRR HS1
    go_enter Tryz.func64, Tryz.ntmps64
    go_wp2_with fail
    go_ret
    exact HF.out
  · have hlen : 0 < s.old.length := List.length_pos_iff.2 h0
    have hne : ((s.old.length : Int) == 0) = false := by rw [beq_eq_false_iff_ne]; omega
    have HA : Hid (CleanAt B S w p g s D V cv O co 0 w) := Lib.hid ⟨S, D, h, fun b hb => .inl hb, Mods.refl _ _, rfl, Nat.le_refl _⟩
    have hcap := h.old.cap
    rw [List.length_map] at hcap
    have H0 := Lib.hid h0
    clear h h0
    go_enter Tryz.func64, Tryz.ntmps64
    go_wp2_with fail
    go_loopw [17] (fun i wr => ∃ k : Nat, k ≤ s.old.length ∧ i = .int .i64 (k : Int) ∧ Hid (CleanAt B S w p g s D V cv O co k wr)) (fun i _ => s.old.length - (intOf i).toNat)
    case atStart => exact ⟨0, Nat.zero_le _, rfl, HA⟩
    case round =>
      obtain ⟨k, hk, rfl, HC⟩ := hrel
      obtain ⟨S', Dk, hr, hS', hm, hcl, hck⟩ := HC.out
      by_cases hlt : k < s.old.length
      · have hki : (k : Int) < (s.old.length : Int) := by omega
        have hki0 : (0 : Int) ≤ (k : Int) := by omega
        obtain ⟨b, off, rfl, hbl, hc⟩ := hr.old.rv.cell (j := k) (by simpa using hlt)
        have hf : (s.old.map encStr)[k]'(by simpa using hlt) = .string ⟨s.old[k].toArray⟩ := by simp [encStr]
        rw [hf] at hc
        have hfl := hr.on _ (List.getElem_mem hlt)
        have hdrop : s.old.drop k = s.old[k] :: s.old.drop (k + 1) := List.drop_eq_getElem_cons hlt
        obtain ⟨q, hq⟩ : ∃ q, q = rmD Dk s.old[k] := ⟨_, rfl⟩
        have hrm := diskRemoveC s.old[k] hr.di (by omega) (by omega)
        rw [show changeD Dk ⟨3, s.old[k], 0, []⟩ 0 = q from hq.symm] at hrm
        have RM := Lib.hid hrm
        have HQC : Hid (q.2.cnt ≤ D.cnt + (k + 1)) := Lib.hid (by rw [hq]; unfold rmD; have := change_cnt Dk ⟨3, s.old[k], 0, []⟩ 0; omega)
        have HCL : Hid (cleanL s.old D = if q.1 = 0 then cleanL (s.old.drop (k + 1)) q.2 else q) := Lib.hid (by rw [hcl, hdrop, cleanL, hq])
        have d0 : wr.cell? ⟨p, 0, none⟩ = some (.pointer (some ⟨g, 0, none⟩)) := hr.blk.cell 0 rfl
        have HR := Lib.hid hr
        have HM := Lib.hid hm
        have HS' := Lib.hid hS'
        generalize s.old[k] = f at *
        clear hr hf HC hdrop hfl hcl hck hrm hq hm hS'
        go_wp2_with (go_at_call 31; refine RM.out.mono ?_)
        rintro e w1 ⟨rfl, hd1, m1⟩
        have hR1 := HR.out.disk (Nat.le_trans hB HM.out.size) hd1 m1
        have DD := Lib.hid (slotDid hR1.blk s.down rfl q.1)
        have HR2 : Hid (SR B (Sx S' wr w1) (w1.setCell ⟨p, 6, none⟩ (.bool (s.down || decide (q.1 = 11)))) p g { s with down := s.down || decide (q.1 = 11) } q.2 V cv _ co) := Lib.hid (hR1.set 6 _ rfl rfl rfl rfl)
        have HM2 : Hid (Mods (fun b => S b ∨ b = p) w (w1.setCell ⟨p, 6, none⟩ (.bool (s.down || decide (q.1 = 11))))) := Lib.hid ((HM.out.trans m1 (fun i hi => by
          rcases HS'.out i hi with h | h
          · exact .inl (.inl h)
          · exact .inr h)).setCell ⟨p, 6, none⟩ (.inl (.inr rfl)) _)
        have HS2 : Hid (∀ b, Sx S' wr w1 b → S b ∨ w.heap.size ≤ b) := Lib.hid (fun b hb => by
          rcases hb with hb | hb
          · exact HS'.out b hb
          · exact .inr (Nat.le_trans HM.out.size hb.1))
        clear hd1 m1 hR1 RM HR HM HS' d0
        go_wp2_with (go_at_call 88; refine DD.out.mono ?_)
        rintro e w2 ⟨rfl, rfl⟩
        clear DD
        by_cases hq0 : q.1 = 0
        · have e1 : ({ s with down := s.down || decide (q.1 = 11) } : Sl) = s := by
            rw [hq0]
            obtain ⟨a1, a2, a3, a4, a5, a6⟩ := s
            simp
          rw [e1] at HR2
          have HA2 : Hid (CleanAt B S w p g s D V cv _ co (k + 1) (w1.setCell ⟨p, 6, none⟩ (.bool (s.down || decide (q.1 = 11))))) := Lib.hid ⟨_, q.2, HR2.out, HS2.out, HM2.out, by rw [HCL.out, if_pos hq0], HQC.out⟩
          rw [hq0]
          rw [hq0] at HA2
          simp only [show decide ((0 : Int) = 11) = false from rfl, Bool.or_false] at HA2
          clear HR2 HS2 HM2 HCL HQC e1 hq0
          go_wp2_with fail
          go_roundw
          case rel => exact ⟨k + 1, by omega, by go_num, HA2⟩
          case measure => simp [intOf]; omega
        · have er : r = q := by
            rw [HRR.out]; unfold cleanD; rw [if_neg H0.out, HCL.out, if_neg hq0, if_neg hq0]
          have hqb : (q.1 == 0) = false := by simpa using hq0
          have HF : Hid (SDone B S w V p g (.int .i64 r.1) s1 r.2 (.returned (.int .i64 q.1)) (w1.setCell ⟨p, 6, none⟩ (.bool (s.down || decide (q.1 = 11))))) := Lib.hid (by
            rw [er]
            refine ⟨rfl, _, V, cv, some ⟨b, off, none⟩, co, ?_, HS2.out, HM2.out, fun _ h => .inl h⟩
            rw [HS1.out, HCL.out, if_neg hq0, if_neg hq0, er]
            exact HR2.out)
          clear HR2 HS2 HM2 HCL HQC er hq0 HRR HS1
          go_wp2_with fail
          go_ret
          exact HF.out
      · obtain rfl : k = s.old.length := by omega
        have hcl0 : cleanL s.old D = (0, Dk) := by rw [hcl, List.drop_length]; rfl
        have hR1 := hr.setOld (O' := none) (co' := 0) (l := []) (OV.nil _ _ _) (fun b hb => by cases hb) (fun f hf => by cases hf)
        simp only [List.length_nil] at hR1
        have hm1 : Mods (fun b => S b ∨ b = p) w (wr.setCell ⟨p, 5, none⟩ (.slice none 0 0)) := hm.setCell ⟨p, 5, none⟩ (.inl (.inr rfl)) _
        have f5 : wr.frozen? ⟨p, 5, none⟩ = false := hr.blk.free 5
        have c5w : wr.cell? ⟨p, 5, none⟩ = some (.slice O s.old.length co) := hr.blk.cell 5 rfl
        have d0 : wr.cell? ⟨p, 0, none⟩ = some (.pointer (some ⟨g, 0, none⟩)) := hr.blk.cell 0 rfl
        have d0' : (wr.setCell ⟨p, 5, none⟩ (.slice none 0 0)).cell? ⟨p, 0, none⟩ = some (.pointer (some ⟨g, 0, none⟩)) := hR1.blk.cell 0 rfl
        have SY := Lib.hid (diskSyncC hR1.di (by omega))
        have HR1 := Lib.hid hR1
        have HM1 := Lib.hid hm1
        have HS' := Lib.hid hS'
        have HCL := Lib.hid hcl0
        obtain ⟨q, hq⟩ : ∃ q, q = syncD Dk := ⟨_, rfl⟩
        rw [← hq] at SY
        have er : r = q := by rw [HRR.out]; unfold cleanD; rw [if_neg H0.out, hcl0, if_pos rfl, hq]
        have HER := Lib.hid er
        clear hr hR1 hm1 hm hS' hcl0 hcl hck hq er HC
        go_wp2_with (go_at_call 90; refine SY.out.mono ?_)
        rintro e w1 ⟨rfl, hd1, m1⟩
        have hsz : (wr.setCell ⟨p, 5, none⟩ (.slice none 0 0)).heap.size = wr.heap.size := by simp [World.setCell]
        have hR2 := HR1.out.disk (Nat.le_trans hB HM1.out.size) hd1 m1
        have DD := Lib.hid (slotDid hR2.blk s.down rfl q.1)
        have HF : Hid (SDone B S w V p g (.int .i64 r.1) s1 r.2 (.returned (.int .i64 q.1)) (w1.setCell ⟨p, 6, none⟩ (.bool (s.down || decide (q.1 = 11))))) := Lib.hid (by
          refine ⟨by rw [HER.out], Sx S' (wr.setCell ⟨p, 5, none⟩ (.slice none 0 0)) w1, V, cv, none, 0, ?_, ?_, ?_, fun _ h => .inl h⟩
          · rw [HS1.out, HCL.out, if_pos rfl, HER.out]
            exact hR2.set 6 _ rfl rfl rfl rfl
          · intro b hb
            rcases hb with hb | hb
            · exact HS'.out b hb
            · exact .inr (Nat.le_trans HM1.out.size hb.1)
          · exact (HM1.out.trans m1 (fun i hi => by
              rcases HS'.out i hi with h | h
              · exact .inl (.inl h)
              · exact .inr h)).setCell ⟨p, 6, none⟩ (.inl (.inr rfl)) _)
        clear hd1 m1 hR2 SY HR1 HM1 HS' HCL HER d0 d0' f5 c5w hsz HRR HS1
        go_wp2_with (go_at_call 88; refine DD.out.mono ?_)
        rintro e w2 ⟨rfl, rfl⟩
        go_wp2_with fail
        go_ret
        exact HF.out
end
end Go.Proofs.YtobdmlejabjmiaaGreatDoor

