/- Plain: a call's line, written and read. -/
import Derived.Test.YtcinohmhhglpjaaDoorScrRx
namespace Go.Proofs.YtcinohmhhglpjaaDoor
open Go.Lib

def InU (z : Int) : Prop := 0 ≤ z ∧ z ≤ 18446744073709551615
structure Rp where
  ses : Int
  seq : Int
  e : Int
  lease : Int
  amount : Int
  til : Int
structure Rp.wf (r : Rp) : Prop where
  ses : InU r.ses
  seq : InU r.seq
  e : InI r.e
  lease : InU r.lease
  amount : InI r.amount
  til : InI r.til
structure Cl where
  edge : Int
  look : Bool
  lazy : Bool
  cmd : Cm
  key : List UInt8
  beg : Int
  fin : Int
  rep : Rp
  cap : Int
  lent : Int
structure Cl.wf (c : Cl) : Prop where
  edge : InI c.edge
  cmd : c.cmd.wf
  keyl : c.key.length ≤ 140737488351232
  beg : InI c.beg
  fin : InI c.fin
  rep : c.rep.wf
  cap : InI c.cap
  lent : InI c.lent
def Cm.zero : Cm := ⟨0, 0, 0, [], 0, 0, 0⟩
def Rp.zero : Rp := ⟨0, 0, 0, 0, 0, 0⟩
def Cl.zero : Cl := ⟨0, false, false, .zero, [], 0, 0, .zero, 0, 0⟩
theorem Cm.ext_iff' {c d : Cm} : c = d ↔ c.ses = d.ses ∧ c.seq = d.seq ∧ c.op = d.op ∧ c.key = d.key ∧ c.amount = d.amount ∧ c.span = d.span ∧ c.lease = d.lease := by
  cases c; cases d; simp
theorem Rp.ext_iff' {c d : Rp} : c = d ↔ c.ses = d.ses ∧ c.seq = d.seq ∧ c.e = d.e ∧ c.lease = d.lease ∧ c.amount = d.amount ∧ c.til = d.til := by
  cases c; cases d; simp
instance (c d : Cm) : Decidable (c = d) := decidable_of_iff _ Cm.ext_iff'.symm
instance (c d : Rp) : Decidable (c = d) := decidable_of_iff _ Rp.ext_iff'.symm
def Cl.ok (c : Cl) : Bool :=
  if c.look then decide (c.key.length ≤ 64) && decide (c.cmd = .zero) && decide (c.rep = .zero)
  else c.cmd.ok && decide (0 ≤ c.rep.e) && decide (c.rep.e ≤ 20) && !c.lazy && decide (c.key = []) && decide (c.cap = 0) && decide (c.lent = 0)
def Rp.words (r : Rp) : List (List UInt8) := [udec r.ses, udec r.seq, udec r.e, udec r.lease, itoa r.amount, itoa r.til]
def wCall : List UInt8 := [99, 97, 108, 108]
def wLook : List UInt8 := [108, 111, 111, 107]
def wLazy : List UInt8 := [108, 97, 122, 121]
def Cl.head (c : Cl) : List UInt8 := if c.look then (if c.lazy then wLazy else wLook) else wCall
def Cl.rest (c : Cl) : List (List UInt8) := [itoa c.edge, itoa c.beg, itoa c.fin] ++ if c.look then [120 :: hexs c.key, itoa c.cap, itoa c.lent] else c.cmd.words ++ c.rep.words
def Cl.line (c : Cl) : List UInt8 := c.head ++ tailw c.rest
theorem Cl.line_ne (c : Cl) : c.line ≠ [] := by
  refine tail_ne ?_ _
  unfold Cl.head
  split
  · split <;> decide
  · decide
theorem Cl.head_pure (c : Cl) : (32 : UInt8) ∉ c.head := by
  unfold Cl.head
  split
  · split <;> decide
  · decide
theorem Cl.rest_pure (c : Cl) : ∀ s ∈ c.rest, (32 : UInt8) ∉ s := by
  intro s hs
  unfold Cl.rest at hs
  rcases List.mem_append.1 hs with hs | hs
  · simp only [List.mem_cons, List.not_mem_nil, or_false] at hs
    rcases hs with rfl | rfl | rfl <;> exact (pure_itoa _).1
  · split at hs
    · simp only [List.mem_cons, List.not_mem_nil, or_false] at hs
      rcases hs with rfl | rfl | rfl
      · exact (pure_hexs _).1
      · exact (pure_itoa _).1
      · exact (pure_itoa _).1
    · rcases List.mem_append.1 hs with hs | hs
      · exact (c.cmd.pure s hs).1
      · simp only [Rp.words, List.mem_cons, List.not_mem_nil, or_false] at hs
        rcases hs with rfl | rfl | rfl | rfl | rfl | rfl
        · exact (pure_udec _).1
        · exact (pure_udec _).1
        · exact (pure_udec _).1
        · exact (pure_udec _).1
        · exact (pure_itoa _).1
        · exact (pure_itoa _).1
/-- A uint64 as an int. -/
def toI (n : Int) : Int := if n ≤ 9223372036854775807 then n else n - 18446744073709551616
theorem toI_in {n : Int} (h : InU n) : InI (toI n) := by
  obtain ⟨h1, h2⟩ := h
  unfold toI
  split <;> exact ⟨by omega, by omega⟩
def rdReply : Rd Rp := Rd.bind (rd pnum) fun ses => Rd.bind (rd pnum) fun seq => Rd.bind (rd pnum) fun e => Rd.bind (rd pnum) fun lease => Rd.bind (rd pint) fun amount => Rd.bind (rd pint) fun til => Rd.ret ⟨ses, seq, toI e, lease, amount, til⟩
def rdTail (w : List UInt8) (edge beg fin : Int) : Rd Cl :=
  if w = wCall then Rd.bind rdCmd fun cmd => Rd.bind rdReply fun rep => Rd.ret ⟨edge, false, false, cmd, [], beg, fin, rep, 0, 0⟩
  else Rd.bind (rd pkey) fun key => Rd.bind (rd pint) fun cap => Rd.bind (rd pint) fun lent => Rd.ret ⟨edge, true, decide (w = wLazy), .zero, key, beg, fin, .zero, cap, lent⟩
def rdCall : Rd Cl := Rd.bind (rd some) fun w => Rd.bind (rd pint) fun edge => Rd.bind (rd pint) fun beg => Rd.bind (rd pint) fun fin => rdTail w edge beg fin
def readCall (l : List UInt8) : Option Cl := match whole rdCall l with
  | some c => if c.ok = true ∧ c.line = l then some c else none
  | none => none
theorem rdReply_words {r : Rp} (hr : r.wf) (h0 : 0 ≤ r.e) (h1 : r.e ≤ 20) (t : List (List UInt8)) : rdReply (r.words ++ t) = some (r, t) := by
  obtain ⟨q1, q2, q3, q4, q5, q6⟩ := hr
  unfold rdReply Rp.words
  simp only [List.cons_append, List.nil_append]
  rw [Rd.bind_some (rd_cons (pnum_udec q1.1 q1.2) _), Rd.bind_some (rd_cons (pnum_udec q2.1 q2.2) _), Rd.bind_some (rd_cons (pnum_udec h0 (by omega)) _), Rd.bind_some (rd_cons (pnum_udec q4.1 q4.2) _), Rd.bind_some (rd_cons (pint_itoa q5.1 q5.2) _), Rd.bind_some (rd_cons (pint_itoa q6.1 q6.2) _)]
  have e : toI r.e = r.e := by unfold toI; rw [if_pos (by omega)]
  rw [e]
  rfl
theorem rdCall_words {c : Cl} (hc : c.wf) (ho : c.ok = true) : rdCall (c.head :: c.rest) = some (c, []) := by
  obtain ⟨edge, look, lazy, cmd, key, beg, fin, rep, cap, lent⟩ := c
  obtain ⟨q1, q2, q3, q4, q5, q6, q7, q8⟩ := hc
  unfold rdCall Cl.rest
  simp only [List.cons_append, List.nil_append]
  rw [Rd.bind_some (rd_cons rfl _), Rd.bind_some (rd_cons (pint_itoa q1.1 q1.2) _), Rd.bind_some (rd_cons (pint_itoa q4.1 q4.2) _), Rd.bind_some (rd_cons (pint_itoa q5.1 q5.2) _)]
  cases look with
  | true =>
    simp only [Cl.ok, if_true, Bool.and_eq_true, decide_eq_true_eq] at ho
    obtain ⟨⟨ho1, rfl⟩, rfl⟩ := ho
    have hw : Cl.head ⟨edge, true, lazy, .zero, key, beg, fin, .zero, cap, lent⟩ ≠ wCall := by
      unfold Cl.head
      cases lazy <;> simp <;> decide
    unfold rdTail
    rw [if_neg hw]
    simp only [if_true]
    rw [Rd.bind_some (rd_cons (pkey_hexs ho1) _), Rd.bind_some (rd_cons (pint_itoa q7.1 q7.2) _), Rd.bind_some (rd_cons (pint_itoa q8.1 q8.2) _)]
    unfold Rd.ret Cl.head
    cases lazy <;> simp <;> decide
  | false =>
    simp only [Cl.ok, Bool.false_eq_true, if_false, Bool.and_eq_true, decide_eq_true_eq, Bool.not_eq_true'] at ho
    obtain ⟨⟨⟨⟨⟨⟨o1, o2⟩, o3⟩, rfl⟩, rfl⟩, rfl⟩, rfl⟩ := ho
    unfold rdTail
    rw [if_pos (by simp [Cl.head])]
    simp only [Bool.false_eq_true, if_false]
    rw [Rd.bind_some (rdCmd_words q2 o1 _)]
    have e := rdReply_words q6 o2 o3 []
    rw [List.append_nil] at e
    rw [Rd.bind_some e]
    rfl
theorem readCall_line {c : Cl} (hc : c.wf) (ho : c.ok = true) : readCall c.line = some c := by
  unfold readCall whole
  have e : parts 32 c.line = c.head :: c.rest := parts_tail c.head_pure c.rest_pure
  rw [e, rdCall_words hc ho]
  simp [ho]
theorem readCall_some {l : List UInt8} {c : Cl} (h : readCall l = some c) : c.ok = true ∧ c.line = l := by
  unfold readCall at h
  split at h
  · split at h
    · injection h with h; subst h; assumption
    · cases h
  · cases h
theorem rdReply_wf {l r : List (List UInt8)} {x : Rp} (h : rdReply l = some (x, r)) : x.wf := by
  unfold rdReply at h
  obtain ⟨x1, t1, e1, h⟩ := Rd.bind_eq h
  obtain ⟨x2, t2, e2, h⟩ := Rd.bind_eq h
  obtain ⟨x3, t3, e3, h⟩ := Rd.bind_eq h
  obtain ⟨x4, t4, e4, h⟩ := Rd.bind_eq h
  obtain ⟨x5, t5, e5, h⟩ := Rd.bind_eq h
  obtain ⟨x6, t6, e6, hz⟩ := Rd.bind_eq h
  obtain ⟨s1, _, q1⟩ := rd_eq e1
  obtain ⟨s2, _, q2⟩ := rd_eq e2
  obtain ⟨s3, _, q3⟩ := rd_eq e3
  obtain ⟨s4, _, q4⟩ := rd_eq e4
  obtain ⟨s5, _, q5⟩ := rd_eq e5
  obtain ⟨s6, _, q6⟩ := rd_eq e6
  unfold Rd.ret at hz
  injection hz with hz
  injection hz with h1 h2
  subst h1 h2
  exact ⟨(pnum_some q1).2, (pnum_some q2).2, toI_in (pnum_some q3).2, (pnum_some q4).2, (pint_some q5).2, (pint_some q6).2⟩
theorem zero_wf : Cm.zero.wf ∧ Rp.zero.wf := ⟨⟨by decide, by decide, by decide, by decide, by decide, by decide, by decide, by decide, by decide, by decide, by decide, by decide, by decide⟩, ⟨by unfold InU Rp.zero; simp, by unfold InU Rp.zero; simp, by unfold InI Rp.zero; simp, by unfold InU Rp.zero; simp, by unfold InI Rp.zero; simp, by unfold InI Rp.zero; simp⟩⟩
theorem rdCall_wf {l r : List (List UInt8)} {c : Cl} (h : rdCall l = some (c, r)) : c.wf := by
  unfold rdCall at h
  obtain ⟨w, t0, e0, h⟩ := Rd.bind_eq h
  obtain ⟨x1, t1, e1, h⟩ := Rd.bind_eq h
  obtain ⟨x2, t2, e2, h⟩ := Rd.bind_eq h
  obtain ⟨x3, t3, e3, h⟩ := Rd.bind_eq h
  obtain ⟨s1, _, q1⟩ := rd_eq e1
  obtain ⟨s2, _, q2⟩ := rd_eq e2
  obtain ⟨s3, _, q3⟩ := rd_eq e3
  unfold rdTail at h
  split at h
  · obtain ⟨x4, t4, e4, h⟩ := Rd.bind_eq h
    obtain ⟨x5, t5, e5, hz⟩ := Rd.bind_eq h
    obtain ⟨_, c1, c2⟩ := rdCmd_some e4
    have := rdReply_wf e5
    unfold Rd.ret at hz
    injection hz with hz
    injection hz with h1 h2
    subst h1 h2
    exact ⟨(pint_some q1).2, c1, by simp, (pint_some q2).2, (pint_some q3).2, this, by unfold InI; simp, by unfold InI; simp⟩
  · obtain ⟨x4, t4, e4, h⟩ := Rd.bind_eq h
    obtain ⟨x5, t5, e5, h⟩ := Rd.bind_eq h
    obtain ⟨x6, t6, e6, hz⟩ := Rd.bind_eq h
    obtain ⟨s4, _, q4⟩ := rd_eq e4
    obtain ⟨s5, _, q5⟩ := rd_eq e5
    obtain ⟨s6, _, q6⟩ := rd_eq e6
    unfold Rd.ret at hz
    injection hz with hz
    injection hz with h1 h2
    subst h1 h2
    have := (pkey_some q4).2
    exact ⟨(pint_some q1).2, zero_wf.1, by show x4.length ≤ _; omega, (pint_some q2).2, (pint_some q3).2, zero_wf.2, (pint_some q5).2, (pint_some q6).2⟩
end Go.Proofs.YtcinohmhhglpjaaDoor
