/- Contracts of the reference's readers: ToAct. -/
import Derived.Test.YtcinohmhhglpjaaDoorScrQk
import Derived.Test.YtcinohmhhglpjaaDoorScrTA
namespace Go.Proofs.YtcinohmhhglpjaaDoor
open Go.RowKit

/-- The kind that stands after k - 1 words were tried. -/
def KdInv (s : List UInt8) (k : Nat) (K : Int) : Prop := (K = 0 ∧ ∀ j, 1 ≤ j → j < k → kindWord j ≠ s) ∨ (1 ≤ K ∧ kindWord K.toNat = s)
theorem KdInv.start (s : List UInt8) : KdInv s 1 0 := .inl ⟨rfl, fun j h1 h2 => by omega⟩
theorem KdInv.hit {s : List UInt8} {k : Nat} (h : kindWord k = s) (hk : 1 ≤ k) : KdInv s (k + 1) k := .inr ⟨by omega, by simpa using h⟩
theorem KdInv.miss {s : List UInt8} {k : Nat} {K : Int} (h : KdInv s k K) (hk : kindWord k ≠ s) : KdInv s (k + 1) K := by
  rcases h with ⟨h1, h2⟩ | h
  · refine .inl ⟨h1, fun j h3 h4 => ?_⟩
    by_cases e : j = k
    · subst e; exact hk
    · exact h2 j h3 (by omega)
  · exact .inr h
theorem KdInv.fin {s : List UInt8} {K : Int} (h : KdInv s 19 K) (hK : K ≤ 18) : (kindOf s = none ∧ K = 0) ∨ (kindOf s = some K ∧ 0 < K) := by
  rcases h with ⟨rfl, h2⟩ | ⟨h1, h2⟩
  · left
    refine ⟨?_, rfl⟩
    cases e : kindOf s with
    | none => rfl
    | some m =>
      obtain ⟨a, b, c⟩ := kindOf_some e
      exact absurd c (h2 m.toNat (by omega) (by omega))
  · right
    refine ⟨?_, by omega⟩
    rw [← h2, kindOf_word K.toNat (by omega) (by omega)]
    congr 1
    omega
/-- What the reference's ToAct answers. -/
def RefToActE (s : List UInt8) (w : World) (e : Ending) (w' : World) : Prop :=
  e = .returned (.tuple #[.agg (match readAct s with | some x => x.cells.toArray | none => #[.int .i64 0, .int .i64 0, .int .i64 0, .int .i64 0, .int .u64 0, .int .u64 0, .int .u64 0, .int .u64 0, .int .i64 0, .string ⟨#[]⟩, .int .i64 0, .int .i64 0, .int .u64 0]), .bool (readAct s).isSome]) ∧ Below w.heap.size w w'
theorem refToActE_no {s : List UInt8} {w w' : World} (h : readAct s = none) (hb : Below w.heap.size w w') : RefToActE s w (.returned (.tuple #[.agg #[.int .i64 0, .int .i64 0, .int .i64 0, .int .i64 0, .int .u64 0, .int .u64 0, .int .u64 0, .int .u64 0, .int .i64 0, .string ⟨#[]⟩, .int .i64 0, .int .i64 0, .int .u64 0], .bool false])) w' := by
  unfold RefToActE; rw [h]; exact ⟨rfl, hb⟩
theorem refToActE_yes {s : List UInt8} {w w' : World} {x : Ap} {cs : Array Value} (h : readAct s = some x) (hv : cs = x.cells.toArray) (hb : Below w.heap.size w w') : RefToActE s w (.returned (.tuple #[.agg cs, .bool true])) w' := by
  subst hv; unfold RefToActE; rw [h]; exact ⟨rfl, hb⟩

theorem readAct_parts {s w0 w1 w2 w3 w4 w5 w6 w7 w8 w9 w10 w11 w12 : List UInt8} {a : Ap} (hp : parts 32 s = [w0, w1, w2, w3, w4, w5, w6, w7, w8, w9, w10, w11, w12]) (h : readAct s = some a) : kindOf w0 = some a.kind ∧ pint w1 = some a.a ∧ pint w2 = some a.b ∧ pint w3 = some a.n ∧ pnum w4 = some a.draw ∧ pnum w5 = some a.mask ∧ pnum w6 = some a.cmd.ses ∧ pnum w7 = some a.cmd.seq ∧ pint w8 = some a.cmd.op ∧ pkey w9 = some a.cmd.key ∧ pint w10 = some a.cmd.amount ∧ pint w11 = some a.cmd.span ∧ pnum w12 = some a.cmd.lease ∧ a.cmd.ok = true := by
  have h0 := whole_some h
  rw [hp] at h0
  unfold rdAct at h0
  obtain ⟨y0, t0, e0, h1⟩ := Rd.bind_eq h0
  obtain ⟨y1, t1, e1, h2⟩ := Rd.bind_eq h1
  obtain ⟨y2, t2, e2, h3⟩ := Rd.bind_eq h2
  obtain ⟨y3, t3, e3, h4⟩ := Rd.bind_eq h3
  obtain ⟨y4, t4, e4, h5⟩ := Rd.bind_eq h4
  obtain ⟨y5, t5, e5, h6⟩ := Rd.bind_eq h5
  obtain ⟨c, tc, k6, hz⟩ := Rd.bind_eq h6
  unfold rdCmd at k6
  obtain ⟨y6, t6, e6, k7⟩ := Rd.bind_eq k6
  obtain ⟨y7, t7, e7, k8⟩ := Rd.bind_eq k7
  obtain ⟨y8, t8, e8, k9⟩ := Rd.bind_eq k8
  obtain ⟨y9, t9, e9, k10⟩ := Rd.bind_eq k9
  obtain ⟨y10, t10, e10, k11⟩ := Rd.bind_eq k10
  obtain ⟨y11, t11, e11, k12⟩ := Rd.bind_eq k11
  obtain ⟨y12, t12, e12, k13⟩ := Rd.bind_eq k12
  obtain ⟨u, tn, en, kz⟩ := Rd.bind_eq k13
  obtain ⟨s0, l0, q0⟩ := rd_eq e0
  injection l0 with l0 m0
  subst l0 m0
  obtain ⟨s1, l1, q1⟩ := rd_eq e1
  injection l1 with l1 m1
  subst l1 m1
  obtain ⟨s2, l2, q2⟩ := rd_eq e2
  injection l2 with l2 m2
  subst l2 m2
  obtain ⟨s3, l3, q3⟩ := rd_eq e3
  injection l3 with l3 m3
  subst l3 m3
  obtain ⟨s4, l4, q4⟩ := rd_eq e4
  injection l4 with l4 m4
  subst l4 m4
  obtain ⟨s5, l5, q5⟩ := rd_eq e5
  injection l5 with l5 m5
  subst l5 m5
  obtain ⟨s6, l6, q6⟩ := rd_eq e6
  injection l6 with l6 m6
  subst l6 m6
  obtain ⟨s7, l7, q7⟩ := rd_eq e7
  injection l7 with l7 m7
  subst l7 m7
  obtain ⟨s8, l8, q8⟩ := rd_eq e8
  injection l8 with l8 m8
  subst l8 m8
  obtain ⟨s9, l9, q9⟩ := rd_eq e9
  injection l9 with l9 m9
  subst l9 m9
  obtain ⟨s10, l10, q10⟩ := rd_eq e10
  injection l10 with l10 m10
  subst l10 m10
  obtain ⟨s11, l11, q11⟩ := rd_eq e11
  injection l11 with l11 m11
  subst l11 m11
  obtain ⟨s12, l12, q12⟩ := rd_eq e12
  injection l12 with l12 m12
  subst l12 m12
  simp only [Rd.ret, Option.some.injEq, Prod.mk.injEq] at kz
  simp only [Rd.ret, Option.some.injEq, Prod.mk.injEq] at hz
  obtain ⟨rfl, _⟩ := kz
  obtain ⟨rfl, _⟩ := hz
  refine ⟨q0, q1, q2, q3, q4, q5, q6, q7, q8, q9, q10, q11, q12, ?_⟩
  unfold Rd.need at en
  split at en
  · assumption
  · cases en
theorem readAct_give {s w0 w1 w2 w3 w4 w5 w6 w7 w8 w9 w10 w11 w12 : List UInt8} {v0 v1 v2 v3 v4 v5 v6 v7 v8 v10 v11 v12 : Int} {v9 : List UInt8} (hp : parts 32 s = [w0, w1, w2, w3, w4, w5, w6, w7, w8, w9, w10, w11, w12]) (e0 : kindOf w0 = some v0) (e1 : pint w1 = some v1) (e2 : pint w2 = some v2) (e3 : pint w3 = some v3) (e4 : pnum w4 = some v4) (e5 : pnum w5 = some v5) (e6 : pnum w6 = some v6) (e7 : pnum w7 = some v7) (e8 : pint w8 = some v8) (e9 : pkey w9 = some v9) (e10 : pint w10 = some v10) (e11 : pint w11 = some v11) (e12 : pnum w12 = some v12) (ho : Cm.ok ⟨v6, v7, v8, v9, v10, v11, v12⟩ = true) : readAct s = some ⟨v0, v1, v2, v3, v4, v5, ⟨v6, v7, v8, v9, v10, v11, v12⟩⟩ := by
  have hn : ∀ l, Rd.need (Cm.ok ⟨v6, v7, v8, v9, v10, v11, v12⟩) l = some ((), l) := fun l => by simp [Rd.need, ho]
  unfold readAct whole rdAct rdCmd
  rw [hp]
  simp only [Rd.bind, rd, e0, e1, e2, e3, e4, e5, e6, e7, e8, e9, e10, e11, e12, hn, Rd.ret]
theorem readAct_len {s : List UInt8} (h : (parts 32 s).length ≠ 13) : readAct s = none := by
  cases e : readAct s with
  | none => rfl
  | some a =>
    have h2 := (rdAct_some (whole_some e)).1
    exact absurd (by rw [h2]; simp [Cm.words]) h
def CmdE (B : Bool) (w : World) (e : Ending) (w' : World) : Prop := e = .returned (.bool B) ∧ Below w.heap.size w w'
theorem cmdE_of {c : Cm} {w : World} (h : Calls Tryd.prog 33 #[.agg c.cells.toArray] w fun e w' => e = .returned (.bool c.ok) ∧ Below w.heap.size w w') : Calls Tryd.prog 33 #[.agg c.cells.toArray] w (CmdE c.ok w) := h
end Go.Proofs.YtcinohmhhglpjaaDoor
