/- The reference's (*Joiner).Add, whatever piece comes. -/
import Derived.Test.YtogcdbodlomgeaaRJoinC
import Derived.Test.YtogcdbodlomgeaaRJoinD
import Derived.Test.YtogcdbodlomgeaaJoin
namespace Go.Proofs.Ytogcdbodlomgeaa
open Go.RowKit

theorem belowD {B : Nat} {w a b : World} (h : Below B w a) (h1 : b.os = a.os := by rfl) (h2 : b.tape = a.tape := by rfl) (h3 : b.output = a.output := by rfl) (h4 : b.heap = a.heap := by rfl) : Below B w b :=
  ⟨h1.trans h.os, h2.trans h.tape, h3.trans h.output, by rw [h4]; exact h.size, fun k hk => by rw [h4]; exact h.block k hk⟩

set_option maxRecDepth 20000 in
set_option maxHeartbeats 2000000 in
theorem rAdd_bad (g : Nat) (ji jt : Int) (h : List UInt8) (pi pt off : Int) (last : Bool) (D : Option Addr) (c : Nat) (d : List UInt8) (w : World) (hd : d.length ≤ 9223372036854775807) (hb : pi = 0 ∨ off < 0 ∨ 256 < d.length) :
    Calls Try.prog 39 #[.pointer (some ⟨g, 0, none⟩), .agg #[.int .u64 pi, .int .u64 pt, .int .i64 off, .bool last, .slice D d.length c]] w fun e w' => e = .returned (.tuple #[.int .i64 0, .slice none 0 0, .bool false, .int .i64 1]) ∧ Below w.heap.size w w' := by
  have hbw := (Below.refl w.heap.size w).alloc (Nat.le_refl _) (.cells #[.int .u64 pi, .int .u64 pt, .int .i64 off, .bool last, .slice D d.length c] 29)
  go_enter Try.func39, Try.ntmps39
  by_cases h1 : pi = 0
  · subst h1
    go_wp2_with fail
    refine bodyPost_ret (v := .tuple #[.int .i64 0, .slice none 0 0, .bool false, .int .i64 1]) (by simp [results, Try.results39, go_sem]) rfl ?_
    exact ⟨rfl, hbw⟩
  · have e1 : (pi == 0) = false := by simpa using h1
    by_cases h2 : off < 0
    · go_wp2_with fail
      refine bodyPost_ret (v := .tuple #[.int .i64 0, .slice none 0 0, .bool false, .int .i64 1]) (by simp [results, Try.results39, go_sem]) rfl ?_
      exact ⟨rfl, hbw⟩
    · have h3 : (256 : Int) < (d.length : Int) := by omega
      go_wp2_with fail
      refine bodyPost_ret (v := .tuple #[.int .i64 0, .slice none 0 0, .bool false, .int .i64 1]) (by simp [results, Try.results39, go_sem]) rfl ?_
      exact ⟨rfl, hbw⟩

set_option maxRecDepth 20000 in
set_option maxHeartbeats 2000000 in
theorem rAdd_gap (g : Nat) (ji jt : Int) (h : List UInt8) (pi pt off : Int) (last : Bool) (D : Option Addr) (c : Nat) (d : List UInt8) (base : Nat) (w : World) (hj : Jn w base g 49 ji jt h) (hd : d.length ≤ 256) (hp : pi ≠ 0) (ho : 0 ≤ off) (hne : (pi, pt) ≠ (ji, jt)) (ho1 : off ≠ 0) (ho2 : off ≤ 9223372036854775807) :
    Calls Try.prog 39 #[.pointer (some ⟨g, 0, none⟩), .agg #[.int .u64 pi, .int .u64 pt, .int .i64 off, .bool last, .slice D d.length c]] w fun e w' => e = .returned (.tuple #[.int .i64 0, .slice none 0 0, .bool false, .int .i64 12]) ∧ Below w.heap.size w w' := by
  have hbw := (Below.refl w.heap.size w).alloc (Nat.le_refl _) (.cells #[.int .u64 pi, .int .u64 pt, .int .i64 off, .bool last, .slice D d.length c] 29)
  have hbx := Blk.new w #[.int .u64 pi, .int .u64 pt, .int .i64 off, .bool last, .slice D d.length c] 29
  obtain ⟨H, ch, hb, hob⟩ := hj
  have hb' := hb.kept hbw
  have c0 := hb'.cell 0 rfl
  have c1 := hb'.cell 1 rfl
  have c2 := hb'.cell 2 rfl
  have x0 := hbx.cell 0 rfl
  have x1 := hbx.cell 1 rfl
  have x2 := hbx.cell 2 rfl
  have x3 := hbx.cell 3 rfl
  have x4 := hbx.cell 4 rfl
  have e1 : (pi == 0) = false := by simpa using hp
  have e2 : ¬ (256 : Int) < (d.length : Int) := by omega
  have e3 : ¬ off < 0 := by omega
  have e4 : (off != 0) = true := by simpa using ho1
  go_enter Try.func39, Try.ntmps39
  go_wp2_with fail
  by_cases h2 : pi = ji
  · subst h2
    have h3 : (pt != jt) = true := by
      simp only [bne_iff_ne]
      rintro rfl
      exact hne rfl
    go_quiet (fail)
    go_wp2_with fail
    go_quiet (fail)
    go_wp2_with fail
    refine bodyPost_ret (v := .tuple #[.int .i64 0, .slice none 0 0, .bool false, .int .i64 12]) (by simp [results, Try.results39, go_sem]) rfl ⟨rfl, belowD hbw⟩
  · have h2' : (pi != ji) = true := by simpa using h2
    go_quiet (fail)
    go_wp2_with fail
    go_quiet (fail)
    go_wp2_with fail
    refine bodyPost_ret (v := .tuple #[.int .i64 0, .slice none 0 0, .bool false, .int .i64 12]) (by simp [results, Try.results39, go_sem]) rfl ⟨rfl, belowD hbw⟩
set_option maxRecDepth 20000 in
set_option maxHeartbeats 2000000 in
theorem rAdd_gap2 (g : Nat) (ji jt : Int) (h : List UInt8) (off : Int) (last : Bool) (D : Option Addr) (c : Nat) (d : List UInt8) (base : Nat) (w : World) (hj : Jn w base g 49 ji jt h) (hd : d.length ≤ 256) (hp : ji ≠ 0) (ho : (h.length : Int) < off) (ho2 : off ≤ 9223372036854775807) :
    Calls Try.prog 39 #[.pointer (some ⟨g, 0, none⟩), .agg #[.int .u64 ji, .int .u64 jt, .int .i64 off, .bool last, .slice D d.length c]] w fun e w' => e = .returned (.tuple #[.int .i64 0, .slice none 0 0, .bool false, .int .i64 12]) ∧ Below w.heap.size w w' := by
  have hbw := (Below.refl w.heap.size w).alloc (Nat.le_refl _) (.cells #[.int .u64 ji, .int .u64 jt, .int .i64 off, .bool last, .slice D d.length c] 29)
  have hbx := Blk.new w #[.int .u64 ji, .int .u64 jt, .int .i64 off, .bool last, .slice D d.length c] 29
  obtain ⟨H, ch, hb, hob⟩ := hj
  have hb' := hb.kept hbw
  have c0 := hb'.cell 0 rfl
  have c1 := hb'.cell 1 rfl
  have c2 := hb'.cell 2 rfl
  have x0 := hbx.cell 0 rfl
  have x1 := hbx.cell 1 rfl
  have x2 := hbx.cell 2 rfl
  have x3 := hbx.cell 3 rfl
  have x4 := hbx.cell 4 rfl
  have e1 : (ji == 0) = false := by simpa using hp
  have e2 : ¬ (256 : Int) < (d.length : Int) := by omega
  have e3 : ¬ off < 0 := by omega
  have HB := Lib.hid hbw
  clear hb hob hb' hbx hbw
  go_enter Try.func39, Try.ntmps39
  go_wp2_with fail
  go_quiet (fail)
  go_wp2_with fail
  go_quiet (fail)
  go_wp2_with fail
  refine bodyPost_ret (v := .tuple #[.int .i64 0, .slice none 0 0, .bool false, .int .i64 12]) (by simp [results, Try.results39, go_sem]) rfl ⟨rfl, belowD HB.out⟩

theorem rAdd (g : Nat) (ji jt : Int) (h : List UInt8) (pi pt off : Int) (last : Bool) (D : Option Addr) (c : Nat) (d : List UInt8) (base : Nat) (w : World) (hj : Jn w base g 49 ji jt h) (hh : h.length ≤ 32768) (hgb : g < base) (hbs : base ≤ w.heap.size)
    (hD : RB w D d) (hdn : ∀ b off, 0 < d.length → D = some ⟨b, off, none⟩ → b ≠ g) (hd : d.length ≤ 9223372036854775807) (ho1 : -9223372036854775808 ≤ off) (ho2 : off ≤ 9223372036854775807) :
    Calls Try.prog 39 #[.pointer (some ⟨g, 0, none⟩), .agg #[.int .u64 pi, .int .u64 pt, .int .i64 off, .bool last, .slice D d.length c]] w (AddE (addF ji jt h pi pt off last d) base g 49 w) := by
  by_cases hb : pi = 0 ∨ off < 0 ∨ 256 < d.length
  · refine (rAdd_bad g ji jt h pi pt off last D c d w hd hb).mono ?_
    rintro e w' ⟨rfl, hw⟩
    exact addE_none (by rw [addF, if_pos hb]) hh hj hw
  · have hp : pi ≠ 0 := fun e => hb (.inl e)
    have hd2 : d.length ≤ 256 := by omega
    have ho3 : 0 ≤ off := by omega
    by_cases hne : (pi, pt) ≠ (ji, jt)
    · by_cases hz : off = 0
      · subst hz
        have hR : addF ji jt h pi pt 0 last d = addG pi pt [] [] last d := by
          unfold addF addG
          rw [if_neg hb, if_neg (by simp), if_pos hne]
          simp only [List.length_nil, Int.natCast_zero, Int.lt_irrefl, if_false, Int.zero_add, Nat.zero_add, List.take_nil, List.nil_append]
          by_cases h1 : d.length = 0 <;> cases last <;> simp [h1] <;> omega
        rw [hR]
        by_cases hn : ji ≠ pi
        · exact rAdd_otherA g ji jt pi pt h [] last D c d base w hj hh hgb hbs hD hdn hd2 hp (by simp) (fun e => hn e.symm)
        · have hn' : ji = pi := by simpa using hn
          exact rAdd_otherB g ji jt pi pt h [] last D c d base w hj hh hgb hbs hD hdn hd2 hp (by simp) hn'.symm (by rintro rfl; exact hne (by rw [hn']))
      · refine (rAdd_gap g ji jt h pi pt off last D c d base w hj hd2 hp ho3 hne hz ho2).mono ?_
        rintro e w' ⟨rfl, hw⟩
        exact addE_none (by rw [addF, if_neg hb, if_pos ⟨hne, hz⟩]) hh hj hw
    · have he : (pi, pt) = (ji, jt) := by simpa using hne
      injection he with he1 he2
      subst he1 he2
      by_cases hg : (h.length : Int) < off
      · refine (rAdd_gap2 g pi pt h off last D c d base w hj hd2 hp hg ho2).mono ?_
        rintro e w' ⟨rfl, hw⟩
        exact addE_none (by unfold addF; rw [if_neg hb, if_neg (by simp)]; simp only [ne_eq, not_true_eq_false, if_false, hg, if_true]) hh hj hw
      · obtain ⟨k, rfl⟩ : ∃ k : Nat, off = (k : Int) := ⟨off.toNat, by omega⟩
        have hk : k ≤ h.length := by omega
        have hql : (h.take k).length = k := by rw [List.length_take]; omega
        have hR : addF pi pt h pi pt k last d = addG pi pt h (h.take k) last d := by
          unfold addF addG
          rw [if_neg hb, if_neg (by simp)]
          simp only [ne_eq, not_true_eq_false, hg, if_false, Int.toNat_natCast, List.length_append, hql]
          have : ((k : Int) + (d.length : Int) ≤ (h.length : Int)) ↔ k + d.length ≤ h.length := by omega
          simp only [this]
        rw [hR]
        have := rAdd_same g pi pt h (h.take k) last D c d base w hj hh hgb hbs hD hd2 hp (Lib.hid (by rw [hql])) (by omega)
        rwa [hql] at this
end Go.Proofs.Ytogcdbodlomgeaa
