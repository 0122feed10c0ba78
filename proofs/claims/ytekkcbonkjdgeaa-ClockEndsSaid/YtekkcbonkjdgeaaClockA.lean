/- Contracts of package clock: share, New, Now, True, Steady. -/
import Derived.Test.YtekkcbonkjdgeaaTM
import Derived.Test.YtekkcbonkjdgeaaClockNum
import Derived.Test.YtekkcbonkjdgeaaDriftC
import Derived.Laws.BitsAllLaws
namespace Go.Proofs.Ytekkcbonkjdgeaa
open Go.RowKit

/-- The clocks, as a whole. -/
structure Clk where
  nodes : Int
  edges : Int
  rho : Int
  real : Int
  skew : Bool
  T : Int → Int
def Clk.ok (s : Clk) : Prop := (1 ≤ s.nodes ∧ s.nodes ≤ 16) ∧ (0 ≤ s.edges ∧ s.edges ≤ 16) ∧ (0 ≤ s.rho ∧ s.rho ≤ 500000) ∧ (0 ≤ s.real ∧ s.real ≤ 1152921504606846976) ∧ ∀ x, inE s.nodes s.edges x = true → 0 ≤ s.T x ∧ s.T x ≤ 1152921504606846976
def Clk.mapOf (s : Clk) (x : Int) : Option Value := if inE s.nodes s.edges x = true then some (.int .i64 (s.T x)) else none
/-- The clocks in memory, from block n on. -/
def CI (n : Nat) (w : World) (g : Nat) (s : Clk) : Prop :=
  ∃ (m : Nat) (es : List (Int × Value)), Blk w g 82 #[.map (some m), .int .i64 s.nodes, .int .i64 s.edges, .int .i64 s.rho, .int .i64 s.real, .bool s.skew] ∧ MapAt (Value.int .i64) w m es ∧ (∀ x, mget es x = s.mapOf x) ∧ (n ≤ g ∧ n ≤ m) ∧ s.ok
def badC (o : Obj) : Prop := match o with | .cells _ T _ => T = 82 | .map _ _ => True | .mapIter _ _ _ _ => True | _ => False
def badW (o : Obj) : Prop := match o with | .cells _ T _ => T = 88 ∨ T = 2 | _ => False

section
variable {n : Nat} {w w' : World} {g : Nat} {s : Clk}
theorem CI.below (h : CI n w g s) (hb : Below w.heap.size w w') : CI n w' g s := by
  obtain ⟨m, es, h1, h2, r⟩ := h
  exact ⟨m, es, h1.kept hb, h2.below hb, r⟩
theorem CI.tm (h : CI n w g s) (t : TM badW w w') : CI n w' g s := by
  obtain ⟨m, es, h1, h2, r⟩ := h
  exact ⟨m, es, h1.tm t (by simp [badW]), h2.tm t (by simp [badW]), r⟩
theorem CI.ok (h : CI n w g s) : s.ok := by obtain ⟨m, es, _, _, _, _, r⟩ := h; exact r
theorem CI.mono {n' : Nat} (h : CI n w g s) (hn : n' ≤ n) : CI n' w g s := by
  obtain ⟨m, es, h1, h2, h3, h4, h5⟩ := h
  exact ⟨m, es, h1, h2, h3, ⟨by omega, by omega⟩, h5⟩
end

set_option maxRecDepth 20000 in
set_option maxHeartbeats 1000000 in
theorem clockShare (x : Int) (draw : Nat) (w : World) (h0 : -16 ≤ x) (h1 : x ≤ 16) (h2 : x ≠ 0) (hd : draw < 18446744073709551616) :
    Calls Try.prog 51 #[.int .i64 x, .int .u64 (draw : Int)] w fun e w' => e = .returned (.int .i64 (shareV x draw : Nat)) ∧ w = w' := by
  by_cases hx : x < 0
  · obtain ⟨p, hp⟩ : ∃ p : Nat, 4 * (7 - x) % 64 = (p : Int) := ⟨(4 * (7 - x) % 64).toNat, by omega⟩
    have hp64 : p < 64 := by omega
    have hq : draw / 2 ^ p % 16 < 16 := Nat.mod_lt _ (by omega)
    have hand : bits BinOp.and IntKind.u64 ((draw : Int) / 2 ^ p) 15 = ((draw / 2 ^ p % 16 : Nat) : Int) := by
      have h := u64_and_nat (draw / 2 ^ p) 15 (Nat.lt_of_le_of_lt (Nat.div_le_self _ _) hd) (by omega)
      rw [nat_mask4] at h
      rw [← h]
      simp
    have HS := Lib.hid (show shareV x draw = draw / 2 ^ p % 16 by unfold shareV posE; rw [if_pos hx, hp, Int.toNat_natCast])
    generalize draw / 2 ^ p % 16 = q at *
    clear h2
    go_enter Try.func51, Try.ntmps51
    go_wp2_with fail
    go_ret
    exact ⟨ret_int' (by rw [HS.out]), rfl⟩
  · obtain ⟨p, hp⟩ : ∃ p : Nat, 4 * (x - 1) = (p : Int) := ⟨(4 * (x - 1)).toNat, by omega⟩
    have hp64 : p < 64 := by omega
    have hq : draw / 2 ^ p % 16 < 16 := Nat.mod_lt _ (by omega)
    have hand : bits BinOp.and IntKind.u64 ((draw : Int) / 2 ^ p) 15 = ((draw / 2 ^ p % 16 : Nat) : Int) := by
      have h := u64_and_nat (draw / 2 ^ p) 15 (Nat.lt_of_le_of_lt (Nat.div_le_self _ _) hd) (by omega)
      rw [nat_mask4] at h
      rw [← h]
      simp
    have HS := Lib.hid (show shareV x draw = draw / 2 ^ p % 16 by unfold shareV posE; rw [if_neg hx, hp, Int.toNat_natCast])
    generalize draw / 2 ^ p % 16 = q at *
    clear h2
    go_enter Try.func51, Try.ntmps51
    go_wp2_with fail
    go_ret
    exact ⟨ret_int' (by rw [HS.out]), rfl⟩

section
variable {n : Nat} {w : World} {g : Nat} {s : Clk}
set_option maxHeartbeats 1000000 in
theorem clockTrue (h : CI n w g s) : Calls Try.prog 26 #[.pointer (some ⟨g, 0, none⟩)] w fun e w' => e = .returned (.int .i64 s.real) ∧ w = w' := by
  obtain ⟨m, es, h1, _⟩ := h
  have c4 := h1.cell 4 rfl
  clear h1
  go_enter Try.func26, Try.ntmps26
  go_wp2_with fail
  go_ret
  exact ⟨rfl, rfl⟩
set_option maxHeartbeats 1000000 in
theorem clockTrue_nil : Calls Try.prog 26 #[.pointer none] w fun e w' => e = .returned (.int .i64 0) ∧ w = w' := by
  go_enter Try.func26, Try.ntmps26
  go_wp2_with fail
  go_ret
  exact ⟨rfl, rfl⟩
set_option maxHeartbeats 1000000 in
theorem clockSteady (h : CI n w g s) : Calls Try.prog 29 #[.pointer (some ⟨g, 0, none⟩)] w fun e w' => e = .returned (.bool (!s.skew)) ∧ w = w' := by
  obtain ⟨m, es, h1, _⟩ := h
  have c5 := h1.cell 5 rfl
  clear h1
  go_enter Try.func29, Try.ntmps29
  go_wp2_with fail
  go_ret
  exact ⟨rfl, rfl⟩
set_option maxHeartbeats 1000000 in
theorem clockSteady_nil : Calls Try.prog 29 #[.pointer none] w fun e w' => e = .returned (.bool false) ∧ w = w' := by
  go_enter Try.func29, Try.ntmps29
  go_wp2_with fail
  go_ret
  exact ⟨rfl, rfl⟩

/-- What Now answers. -/
def nowV (s : Clk) (x : Int) : Int := if inE s.nodes s.edges x = true then s.T x else 0
def nowE (s : Clk) (x : Int) : Int := if inE s.nodes s.edges x = true then 0 else 1
theorem zero_i64 (w : World) : (zeroValue 2).run Try.prog w = .ok (.int .i64 0) w := by kernel_rfl
set_option maxHeartbeats 1000000 in
theorem clockNow (x : Int) (h : CI n w g s) : Calls Try.prog 27 #[.pointer (some ⟨g, 0, none⟩), .int .i64 x] w fun e w' => e = .returned (.tuple #[.int .i64 (nowV s x), .int .i64 (nowE s x)]) ∧ w = w' := by
  obtain ⟨m, es, h1, h2, h3, _⟩ := h
  have c0 := h1.cell 0 rfl
  by_cases hx : inE s.nodes s.edges x = true
  · have hl := run_lookup_hit (P := Try.prog) intLaw h2 Try.underlying80 (k := x) (v := .int .i64 (s.T x)) (by rw [h3, Clk.mapOf, if_pos hx]) true
    rw [if_pos rfl] at hl
    rw [nowV, nowE, if_pos hx, if_pos hx]
    clear h1 h2 h3 hx
    go_enter Try.func27, Try.ntmps27
    go_wp2_with fail
    go_ret2
    exact ⟨rfl, rfl⟩
  · have hl := run_lookup_miss (P := Try.prog) intLaw h2 Try.underlying80 (zero_i64 w) (k := x) (by rw [h3, Clk.mapOf, if_neg hx]) true
    rw [if_pos rfl] at hl
    rw [nowV, nowE, if_neg hx, if_neg hx]
    clear h1 h2 h3 hx
    go_enter Try.func27, Try.ntmps27
    go_wp2_with fail
    go_ret2
    exact ⟨rfl, rfl⟩
set_option maxHeartbeats 1000000 in
theorem clockNow_nil (x : Int) : Calls Try.prog 27 #[.pointer none, .int .i64 x] w fun e w' => e = .returned (.tuple #[.int .i64 0, .int .i64 1]) ∧ w = w' := by
  go_enter Try.func27, Try.ntmps27
  go_wp2_with fail
  go_ret2
  exact ⟨rfl, rfl⟩
end
end Go.Proofs.Ytekkcbonkjdgeaa
