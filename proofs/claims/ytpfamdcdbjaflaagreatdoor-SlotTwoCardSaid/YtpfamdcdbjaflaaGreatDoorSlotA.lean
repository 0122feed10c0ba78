/- Contracts of package slot: a slot in memory; its files' names; did, Load. -/
import Derived.Test.YtpfamdcdbjaflaaGreatDoorSlotNum
import Derived.Test.YtpfamdcdbjaflaaGreatDoorLaid
import Derived.Test.YtpfamdcdbjaflaaGreatDoorFr
import Derived.WalkLawsBesides
import Derived.Lib.AtoiErrMem
import Derived.Test.YtpfamdcdbjaflaaGreatDoorScrI
import Derived.Test.YtpfamdcdbjaflaaGreatDoorReadE
import Derived.Test.YtpfamdcdbjaflaaGreatDoorDiskQ
import Derived.Deep.QuietTactic
namespace Go.Proofs.YtpfamdcdbjaflaaGreatDoor
open Go.RowKit
open Go.Lib (parseUintB decDigits hasPrefix trimPrefix)

/-- What the program's variables hold. -/
structure SEnv (B : Nat) (w : World) : Prop where
  pow : ∀ w', Below B w w' → Pow w'
  syn : ∃ tp p, ∀ w', Below B w w' → w'.var? Tryz.prog "strconv.ErrSyntax" = some #[.iface tp p]
  rng : ∃ tp p, ∀ w', Below B w w' → w'.var? Tryz.prog "strconv.ErrRange" = some #[.iface tp p]
theorem SEnv.below {B : Nat} {w w' : World} (h : SEnv B w) (hb : Below B w w') : SEnv B w' := by
  obtain ⟨h1, ⟨a, b, h2⟩, ⟨c, d, h3⟩⟩ := h
  exact ⟨fun v hv => h1 v (hb.trans hv), ⟨a, b, fun v hv => h2 v (hb.trans hv)⟩, ⟨c, d, fun v hv => h3 v (hb.trans hv)⟩⟩
theorem SEnv.up {B B' : Nat} {w : World} (h : SEnv B w) (hB : B ≤ B') : SEnv B' w := by
  obtain ⟨h1, ⟨a, b, h2⟩, ⟨c, d, h3⟩⟩ := h
  exact ⟨fun v hv => h1 v (hv.mono hB), ⟨a, b, fun v hv => h2 v (hv.mono hB)⟩, ⟨c, d, fun v hv => h3 v (hv.mono hB)⟩⟩
theorem parseS (s : List UInt8) (B : Nat) (w : World) (hs : s.length ≤ 140737488351232) (hE : SEnv B w) :
    Calls Tryz.prog 49 #[.string ⟨s.toArray⟩, .int .i64 10, .int .i64 64] w fun e w' => Below w.heap.size w w' ∧
      ((∃ u, parseUintB 64 s = .ok u ∧ e = .returned (.tuple #[.int .u64 (u : Int), .nilIface])) ∨ ((∀ u, parseUintB 64 s ≠ .ok u) ∧ ∃ (n : Int) (N : Nat), e = .returned (.tuple #[.int .u64 n, .iface 124 (.pointer (some ⟨N, 0, none⟩))]))) := by
  have hsz : (⟨s.toArray⟩ : ByteArray).size = s.length := by simp [ByteArray.size]
  obtain ⟨_, ⟨a, b, h2⟩, ⟨c, d, h3⟩⟩ := hE
  cases hp : parseUintB 64 s
  · rename_i u
    refine (Tryz.strconv_ParseUint_10_at64_ok ⟨s.toArray⟩ (by rw [hsz]; omega) u hp w).mono ?_
    rintro e w' ⟨rfl, rfl | rfl⟩
    · exact ⟨Below.refl _ _, .inl ⟨u, rfl, rfl⟩⟩
    · exact ⟨Lib.bytesWorld_below _ _ _, .inl ⟨u, rfl, rfl⟩⟩
  · have C : Calls Tryz.prog 49 #[.string ⟨s.toArray⟩, .int .i64 10, .int .i64 64] w fun e w' => ∃ N, e = .returned (.tuple #[.int .u64 0, .iface 124 (.pointer (some ⟨N, 0, none⟩))]) ∧ w.heap.size ≤ N ∧ w'.heap[N]? = some (.cells #[.string ⟨#[80, 97, 114, 115, 101, 85, 105, 110, 116]⟩, .string ⟨s.toArray⟩, .iface a b] 153 (0, 0)) ∧ Below w.heap.size w w' := Any.strconv_ParseUint_10_at64_syntax_var Tryz.laysPu14 ⟨s.toArray⟩ (by rw [hsz]; omega) hp a b w (h2 w (Below.refl _ _))
    refine C.mono ?_
    rintro e w' ⟨N, rfl, _, _, hb⟩
    exact ⟨hb, .inr ⟨(fun u h => by cases h), _, N, rfl⟩⟩
  · refine (Tryz.strconv_ParseUint_10_at64_range_var ⟨s.toArray⟩ (by rw [hsz]; omega) hp c d w (h3 w (Below.refl _ _))).mono ?_
    rintro e w' ⟨N, rfl, _, _, hb⟩
    exact ⟨hb, .inr ⟨(fun u h => by cases h), _, N, rfl⟩⟩
theorem cutPre (f x : List UInt8) (w : World) : Calls Tryz.prog 48 #[.string ⟨f.toArray⟩, .string ⟨x.toArray⟩] w fun e w' => e = .returned (.tuple #[.string ⟨(trimPrefix f x).toArray⟩, .bool (hasPrefix f x)]) ∧ w' = w := Tryz.strings_CutPrefix ⟨f.toArray⟩ ⟨x.toArray⟩ w

abbrev TS : TypeId := 57
section
variable {w : World} {p B : Nat} {cs : Array Value} {b : List UInt8}
set_option maxRecDepth 20000 in
set_option maxHeartbeats 2000000 in
theorem slotFile (hb : Blk w p TS cs) (h1 : cs[1]? = some (.string ⟨b.toArray⟩)) (hbl : b.length ≤ 8) (n : Nat) (hn : n < 18446744073709551616) (hE : SEnv B w) (hB : B ≤ w.heap.size) :
    Calls Tryz.prog 26 #[.pointer (some ⟨p, 0, none⟩), .int .u64 (n : Int)] w fun e w' => e = .returned (.string ⟨(fileN b n).toArray⟩) ∧ Below w.heap.size w w' := by
  have hcat := concatB b [46] (by simp; omega)
  have hdl : (decDigits n).length ≤ 20 := by rw [Go.Lib.decDigits_length]; exact nDigits_le hn
  have hcat2 := concatB (b ++ [46]) (decDigits n) (by simp; omega)
  have hn0 : (0 : Int) ≤ (n : Int) := by omega
  have hn1 : (n : Int) ≤ 18446744073709551615 := by omega
  have HE := Lib.hid hE
  have HBL := Lib.hid hb
  have HC1 := Lib.hid h1
  clear hE hb hdl h1 hbl
  go_enter Tryz.func26, Tryz.ntmps26
  go_wp2_with fail
  refine wp_region_planE_gen (by kernel_rfl) [(0, none), (1, none), (2, none), (3, none), (4, none), (5, none), (6, some [5]), (7, none), (8, none)] (by kernel_rfl) (by kernel_rfl) (by decide) ?_
  intro wq hwq
  have hBq : Below w.heap.size w wq := by rw [hwq]; exact (Below.refl _ _).drew
  have c1 := (HBL.out.kept hBq).cell 1 HC1.out
  clear hwq
  iterate 3 (refine planE_pure (v := ?_) rfl (by rfl) (fun w' => ?_) ?_; rotate_left; (focus (simp only [List.getElem_toArray, List.getElem_cons_succ, List.getElem_cons_zero]; go_simp; first | with_reducible rfl | (simp (disch := omega) only [if_pos, if_neg, dif_pos, Result.andThen_ok]; try with_reducible rfl) | skip)); try simp only [List.getElem_toArray, List.getElem_cons_succ, List.getElem_cons_zero, Act.put, List.setIfInBounds_toArray, List.set_cons_zero, List.set_cons_succ])
  refine planE_cells (v := ?_) [(⟨p, 1, none⟩, .string ⟨b.toArray⟩)] (by simp; and_intros <;> assumption) rfl (by rfl) (fun w' hw' => ?_) ?_; rotate_left; (focus (simp only [List.forall_mem_cons, List.not_mem_nil, false_imp_iff, implies_true, and_true] at hw'; simp only [List.getElem_toArray, List.getElem_cons_succ, List.getElem_cons_zero]; go_simp; first | with_reducible rfl | (simp (disch := omega) only [if_pos, if_neg, dif_pos, Result.andThen_ok]; try with_reducible rfl) | skip)); try simp only [List.getElem_toArray, List.getElem_cons_succ, List.getElem_cons_zero, Act.put, List.setIfInBounds_toArray, List.set_cons_zero, List.set_cons_succ]
  iterate 2 (refine planE_pure (v := ?_) rfl (by rfl) (fun w' => ?_) ?_; rotate_left; (focus (simp only [List.getElem_toArray, List.getElem_cons_succ, List.getElem_cons_zero]; go_simp; first | with_reducible rfl | (simp (disch := omega) only [if_pos, if_neg, dif_pos, Result.andThen_ok]; try with_reducible rfl) | skip)); try simp only [List.getElem_toArray, List.getElem_cons_succ, List.getElem_cons_zero, Act.put, List.setIfInBounds_toArray, List.set_cons_zero, List.set_cons_succ])
  refine planE_eff rfl (by rfl) (fun K hK => ?_)
  go_simp
  refine (fmtUint (n : Int) hn0 hn1 wq (HE.out.pow wq (hBq.mono hB))).mono ?_
  rintro e w1 ⟨rfl, hb1⟩
  rw [udec_nat]
  have hB1 := hBq.trans (hb1.mono hBq.size)
  clear hb1 c1
  have c1 := (HBL.out.kept hB1).cell 1 HC1.out
  refine hK _ _ (by simp [owed, left] <;> (and_intros <;> first | trivial | assumption)) ?_
  clear hK K
  try simp only [List.getElem_toArray, List.getElem_cons_succ, List.getElem_cons_zero, Act.put, List.setIfInBounds_toArray, List.set_cons_zero, List.set_cons_succ]
  iterate 2 (refine planE_pure (v := ?_) rfl (by rfl) (fun w' => ?_) ?_; rotate_left; (focus (simp only [List.getElem_toArray, List.getElem_cons_succ, List.getElem_cons_zero]; go_simp; first | with_reducible rfl | (simp (disch := omega) only [if_pos, if_neg, dif_pos, Result.andThen_ok]; try with_reducible rfl) | skip)); try simp only [List.getElem_toArray, List.getElem_cons_succ, List.getElem_cons_zero, Act.put, List.setIfInBounds_toArray, List.set_cons_zero, List.set_cons_succ])
  refine planE_end ?_
  have HFE : Hid (fileN b n = b ++ 46 :: decDigits n) := Lib.hid (by unfold fileN; simp)
  go_wp2_with fail
  go_ret
  exact ⟨by rw [HFE.out]; rfl, hB1⟩
/-- What number answers. -/
def SNumE (o : Option Nat) (w : World) (e : Ending) (w' : World) : Prop :=
  Below w.heap.size w w' ∧ ∃ x : Int, e = .returned (.tuple #[.int .u64 x, .bool o.isSome]) ∧ ∀ n, o = some n → x = (n : Int)
set_option maxRecDepth 20000 in
set_option maxHeartbeats 2000000 in
theorem slotNumber (hb : Blk w p TS cs) (h1 : cs[1]? = some (.string ⟨b.toArray⟩)) (hbl : b.length ≤ 8) (f : List UInt8) (hf : f.length ≤ 1000) (hE : SEnv B w) :
    Calls Tryz.prog 21 #[.pointer (some ⟨p, 0, none⟩), .string ⟨f.toArray⟩] w (SNumE (numN b f) w) := by
  have hcat := concatB b [46] (by simp; omega)
  have c1 := hb.cell 1 h1
  have CP := Lib.hid (cutPre f (b ++ [46]) w)
  have hlt : (trimPrefix f (b ++ [46])).length ≤ 140737488351232 := by
    unfold trimPrefix
    split
    · rw [List.length_drop]; omega
    · omega
  have PU := Lib.hid (parseS (trimPrefix f (b ++ [46])) B w hlt hE)
  obtain ⟨o, ho⟩ : ∃ o, o = numN b f := ⟨_, rfl⟩
  rw [← ho]
  unfold numN at ho
  clear hE hlt hb h1 hbl hf
  cases hp : hasPrefix f (b ++ [46]) with
  | false =>
    rw [hp] at CP
    rw [hp, if_neg (by simp)] at ho
    have HO := Lib.hid ho
    clear ho hp
    go_enter Tryz.func21, Tryz.ntmps21
    go_wp2_with (go_at_call 48; refine CP.out.mono ?_)
    first | rintro e w1 ⟨rfl, rfl⟩ | rintro e w1 rfl rfl
    clear CP
    go_wp2_with (go_at_call 49; refine PU.out.mono ?_)
    rintro e w1 ⟨hb1, ⟨u, hu, rfl⟩ | ⟨hu, x, N, rfl⟩⟩
    all_goals
      have HB1 := Lib.hid hb1
      clear hb1 hu PU
      go_wp2_with fail
      go_quiet (fail)
      go_wp2_with fail
      go_ret2
      exact ⟨HB1.out.trans ((⟨rfl, rfl, rfl, Nat.le_refl _, fun _ _ => rfl⟩ : Below w1.heap.size w1 (w1.drewN _)).mono HB1.out.size), _, by rw [HO.out]; rfl, fun n hn => by rw [HO.out] at hn; cases hn⟩
  | true =>
    rw [hp] at CP
    rw [hp, if_pos rfl] at ho
    have HO := Lib.hid ho
    clear ho hp
    go_enter Tryz.func21, Tryz.ntmps21
    go_wp2_with (go_at_call 48; refine CP.out.mono ?_)
    first | rintro e w1 ⟨rfl, rfl⟩ | rintro e w1 rfl rfl
    clear CP
    go_wp2_with (go_at_call 49; refine PU.out.mono ?_)
    rintro e w1 ⟨hb1, ⟨u, hu, rfl⟩ | ⟨hu, x, N, rfl⟩⟩
    · have HO2 : Hid (o = some u) := Lib.hid (by rw [HO.out, hu])
      have HB1 := Lib.hid hb1
      clear hb1 hu PU HO
      go_wp2_with fail
      go_quiet (fail)
      go_wp2_with fail
      go_ret2
      exact ⟨HB1.out.trans ((⟨rfl, rfl, rfl, Nat.le_refl _, fun _ _ => rfl⟩ : Below w1.heap.size w1 (w1.drewN _)).mono HB1.out.size), _, by rw [HO2.out]; rfl, fun n hn => by rw [HO2.out] at hn; injection hn with hn; rw [hn]⟩
    · have HO2 : Hid (o = none) := Lib.hid (by
        rw [HO.out]
        split
        · rename_i u h; exact absurd h (hu u)
        · rfl)
      have HB1 := Lib.hid hb1
      clear hb1 hu PU HO
      go_wp2_with fail
      go_quiet (fail)
      go_wp2_with fail
      go_ret2
      exact ⟨HB1.out.trans ((⟨rfl, rfl, rfl, Nat.le_refl _, fun _ _ => rfl⟩ : Below w1.heap.size w1 (w1.drewN _)).mono HB1.out.size), _, by rw [HO2.out]; rfl, fun n hn => by rw [HO2.out] at hn; cases hn⟩
set_option maxHeartbeats 2000000 in
theorem slotDid (hb : Blk w p TS cs) (d : Bool) (h1 : cs[6]? = some (.bool d)) (e0 : Int) :
    Calls Tryz.prog 30 #[.pointer (some ⟨p, 0, none⟩), .int .i64 e0] w fun e w' => e = .returned (.int .i64 e0) ∧ w' = w.setCell ⟨p, 6, none⟩ (.bool (d || decide (e0 = 11))) := by
  have c6 := hb.cell 6 h1
  have f6 := hb.free 6
  clear hb h1
  cases d
  · by_cases he : e0 = 11
    · subst he
      go_enter Tryz.func30, Tryz.ntmps30
      go_wp2_with fail
      go_ret
      exact ⟨rfl, rfl⟩
    · have heb : (e0 == 11) = false := by simpa using he
      have hed : decide (e0 = 11) = false := by simpa using he
      rw [hed]
      clear hed
      go_enter Tryz.func30, Tryz.ntmps30
      go_wp2_with fail
      go_ret
      exact ⟨rfl, rfl⟩
  · go_enter Tryz.func30, Tryz.ntmps30
    go_wp2_with fail
    go_ret
    exact ⟨rfl, rfl⟩
end
end Go.Proofs.YtpfamdcdbjaflaaGreatDoor
