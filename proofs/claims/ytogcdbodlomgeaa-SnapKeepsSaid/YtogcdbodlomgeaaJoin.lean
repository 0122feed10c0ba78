/- snap's (*Joiner).Add, whatever piece comes. -/
import Derived.Test.YtogcdbodlomgeaaJoinC
import Derived.Test.YtogcdbodlomgeaaJoinD
namespace Go.Proofs.Ytogcdbodlomgeaa
open Go.RowKit

set_option maxRecDepth 20000 in
set_option maxHeartbeats 2000000 in
theorem joinAdd_gap2 (g : Nat) (ji jt : Int) (h : List UInt8) (off : Int) (last : Bool) (D : Option Addr) (c : Nat) (d : List UInt8) (base : Nat) (w : World) (hj : Jn w base g 67 ji jt h) (hd : d.length ≤ 256) (hp : ji ≠ 0) (ho : (h.length : Int) < off) (ho2 : off ≤ 9223372036854775807) :
    Calls Try.prog 37 #[.pointer (some ⟨g, 0, none⟩), .agg #[.int .u64 ji, .int .u64 jt, .int .i64 off, .bool last, .slice D d.length c]] w fun e w' => e = .returned (.tuple #[.int .i64 0, .slice none 0 0, .bool false, .int .i64 12]) ∧ Below w.heap.size w w' := by
  have hbw := (Below.refl w.heap.size w).alloc (Nat.le_refl _) (.cells #[.int .u64 ji, .int .u64 jt, .int .i64 off, .bool last, .slice D d.length c] 25)
  have hbx := Blk.new w #[.int .u64 ji, .int .u64 jt, .int .i64 off, .bool last, .slice D d.length c] 25
  obtain ⟨H, ch, hb, hob⟩ := hj
  have hb' := hb.kept hbw
  have c0 := hb'.cell 0 rfl
  have c1 := hb'.cell 1 rfl
  have c2 := hb'.cell 2 rfl
  have x0 := hbx.cell 0 rfl
  have x1 := hbx.cell 1 rfl
  have x2 := hbx.cell 2 rfl
  have x3 := hbx.cell 3 rfl
  have x4 := hbx.cell 4 rfl
  have e1 : (ji == 0) = false := by simpa using hp
  have e2 : ¬ (256 : Int) < (d.length : Int) := by omega
  have e3 : ¬ off < 0 := by omega
  have HB := Lib.hid hbw
  clear hb hob hb' hbx hbw
  go_enter Try.func37, Try.ntmps37
  go_wp2_with fail
  go_quiet (fail)
  go_wp2_with fail
  go_quiet (fail)
  go_wp2_with fail
  refine bodyPost_ret (v := .tuple #[.int .i64 0, .slice none 0 0, .bool false, .int .i64 12]) (by simp [results, Try.results37, go_sem]) rfl ⟨rfl, below_drewN (below_drewN HB.out _) _⟩

theorem Jn.below {w w' : World} {base g : Nat} {T : TypeId} {ji jt : Int} {h : List UInt8} (hj : Jn w base g T ji jt h) (hb : Below w.heap.size w w') : Jn w' base g T ji jt h := by
  obtain ⟨H, c, h1, h2⟩ := hj
  exact ⟨H, c, h1.kept hb, h2.below hb⟩

theorem addE_none {R : AddR} {base g : Nat} {T : TypeId} {w w' : World} {er ji jt : Int} {h : List UInt8} (hR : R = ⟨0, [], false, er, ji, jt, h⟩) (hh : h.length ≤ 32768) (hj : Jn w base g T ji jt h) (hb : Below w.heap.size w w') :
    AddE R base g T w (.returned (.tuple #[.int .i64 0, .slice none 0 0, .bool false, .int .i64 er])) w' :=
  ⟨0, [], false, er, ji, jt, h, none, 0, Lib.hid hR.symm, by simp, hh, rfl, hj.below hb, RB.nil, gb_below hb⟩

theorem joinAdd (g : Nat) (ji jt : Int) (h : List UInt8) (pi pt off : Int) (last : Bool) (D : Option Addr) (c : Nat) (d : List UInt8) (base : Nat) (w : World) (hj : Jn w base g 67 ji jt h) (hh : h.length ≤ 32768) (hgb : g < base) (hbs : base ≤ w.heap.size)
    (hD : RB w D d) (hdn : ∀ b off, 0 < d.length → D = some ⟨b, off, none⟩ → b ≠ g) (hd : d.length ≤ 9223372036854775807) (ho1 : -9223372036854775808 ≤ off) (ho2 : off ≤ 9223372036854775807) :
    Calls Try.prog 37 #[.pointer (some ⟨g, 0, none⟩), .agg #[.int .u64 pi, .int .u64 pt, .int .i64 off, .bool last, .slice D d.length c]] w (AddE (addF ji jt h pi pt off last d) base g 67 w) := by
  by_cases hb : pi = 0 ∨ off < 0 ∨ 256 < d.length
  · refine (joinAdd_bad g ji jt h pi pt off last D c d w hd hb).mono ?_
    rintro e w' ⟨rfl, hw⟩
    exact addE_none (by rw [addF, if_pos hb]) hh hj hw
  · have hp : pi ≠ 0 := fun e => hb (.inl e)
    have hd2 : d.length ≤ 256 := by omega
    have ho3 : 0 ≤ off := by omega
    by_cases hne : (pi, pt) ≠ (ji, jt)
    · by_cases hz : off = 0
      · subst hz
        have hR : addF ji jt h pi pt 0 last d = addG pi pt [] [] last d := by
          unfold addF addG
          rw [if_neg hb, if_neg (by simp), if_pos hne]
          simp only [List.length_nil, Int.natCast_zero, Int.lt_irrefl, if_false, Int.zero_add, Nat.zero_add, List.take_nil, List.nil_append]
          by_cases h1 : d.length = 0 <;> cases last <;> simp [h1] <;> omega
        rw [hR]
        by_cases hn : ji ≠ pi
        · exact joinAdd_otherA g ji jt pi pt h [] last D c d base w hj hh hgb hbs hD hdn hd2 hp (by simp) hn
        · have hn' : ji = pi := by simpa using hn
          exact joinAdd_otherB g ji jt pi pt h [] last D c d base w hj hh hgb hbs hD hdn hd2 hp (by simp) hn'.symm (by rintro rfl; exact hne (by rw [hn']))
      · refine (joinAdd_gap g ji jt h pi pt off last D c d base w hj hd2 hp ho3 hne hz ho2).mono ?_
        rintro e w' ⟨rfl, hw⟩
        exact addE_none (by rw [addF, if_neg hb, if_pos ⟨hne, hz⟩]) hh hj hw
    · have he : (pi, pt) = (ji, jt) := by simpa using hne
      injection he with he1 he2
      subst he1 he2
      by_cases hg : (h.length : Int) < off
      · refine (joinAdd_gap2 g pi pt h off last D c d base w hj hd2 hp hg ho2).mono ?_
        rintro e w' ⟨rfl, hw⟩
        exact addE_none (by unfold addF; rw [if_neg hb, if_neg (by simp)]; simp only [ne_eq, not_true_eq_false, if_false, hg, if_true]) hh hj hw
      · obtain ⟨k, rfl⟩ : ∃ k : Nat, off = (k : Int) := ⟨off.toNat, by omega⟩
        have hk : k ≤ h.length := by omega
        have hql : (h.take k).length = k := by rw [List.length_take]; omega
        have hR : addF pi pt h pi pt k last d = addG pi pt h (h.take k) last d := by
          unfold addF addG
          rw [if_neg hb, if_neg (by simp)]
          simp only [ne_eq, not_true_eq_false, hg, if_false, Int.toNat_natCast, List.length_append, hql]
          have : ((k : Int) + (d.length : Int) ≤ (h.length : Int)) ↔ k + d.length ≤ h.length := by omega
          simp only [this]
        rw [hR]
        have := joinAdd_same g pi pt h (h.take k) last D c d base w hj hh hgb hbs hD hd2 hp (Lib.hid (by rw [hql])) (by omega)
        rwa [hql] at this
end Go.Proofs.Ytogcdbodlomgeaa
