/- A post told by its letters and its cut ways alone; what its calls leave as it was. -/
import Derived.Test.YtihmnkkhccihpaaPostG
namespace Go.Proofs.Ytihmnkkhccihpaa
open Go.RowKit

/-- What was there and is not of a bad kind stays. -/
structure TM (bad : Obj → Prop) (w w' : World) : Prop where
  size : w.heap.size ≤ w'.heap.size
  block : ∀ (b : Nat) (o : Obj), w.heap[b]? = some o → ¬ bad o → w'.heap[b]? = some o
theorem TM.refl (bad : Obj → Prop) (w : World) : TM bad w w := ⟨Nat.le_refl _, fun _ _ h _ => h⟩
theorem TM.trans {bad : Obj → Prop} {w a b : World} (h : TM bad w a) (k : TM bad a b) : TM bad w b := ⟨Nat.le_trans h.size k.size, fun i o hi hb => k.block i o (h.block i o hi hb) hb⟩
theorem TM.below {bad : Obj → Prop} {w a : World} (h : Below w.heap.size w a) : TM bad w a := ⟨h.size, fun i o hi _ => by rw [h.block i (Array.getElem?_eq_some_iff.1 hi).1]; exact hi⟩
theorem TM.mods {bad : Obj → Prop} {S : Nat → Prop} {w a : World} (h : Mods S w a) (hs : ∀ (b : Nat) (o : Obj), w.heap[b]? = some o → S b → bad o) : TM bad w a :=
  ⟨h.size, fun i o hi hb => by rw [h.block i (Array.getElem?_eq_some_iff.1 hi).1 fun hS => hb (hs i o hi hS)]; exact hi⟩
def badP (o : Obj) : Prop := match o with | .cells _ T _ => T = 54 ∨ T = 59 | .map _ _ => True | _ => False
def badR (o : Obj) : Prop := match o with | .cells _ T _ => T = 45 ∨ T = 68 ∨ T = 70 | _ => False

/-- What a call keeps: what lies below n, and what is not of its kind. -/
structure Keep (bad : Obj → Prop) (n : Nat) (w w' : World) : Prop where
  below : Below n w w'
  tm : TM bad w w'
theorem Keep.of_below {bad : Obj → Prop} {n : Nat} {w w' : World} (h : Below w.heap.size w w') (hn : n ≤ w.heap.size) : Keep bad n w w' := ⟨h.mono hn, .below h⟩
theorem Keep.trans {bad : Obj → Prop} {n : Nat} {w a b : World} (h : Keep bad n w a) (k : Keep bad n a b) : Keep bad n w b := ⟨h.below.trans k.below, h.tm.trans k.tm⟩
theorem Keep.refl (bad : Obj → Prop) (n : Nat) (w : World) : Keep bad n w w := ⟨Below.refl _ _, TM.refl _ _⟩

theorem Blk.tm {bad : Obj → Prop} {w w' : World} {g : Nat} {T : TypeId} {cs : Array Value} (h : Blk w g T cs) (k : TM bad w w') (hb : ¬ bad (.cells cs T (0, 0))) : Blk w' g T cs := k.block g _ h hb
theorem OB.tm {bad : Obj → Prop} {w w' : World} {base c : Nat} {A : Option Addr} {l : List UInt8} (h : OB w base A c l) (k : TM bad w w') (hb : ∀ cs, ¬ bad (.cells cs 5 (0, 0))) : OB w' base A c l :=
  h.of_block fun b hb' => by
    obtain ⟨cs, hc⟩ := h.blk b hb'
    rw [hc]; exact k.block b _ hc (hb cs)
theorem OR.tm {bad : Obj → Prop} {w w' : World} {base c k : Nat} {e : TypeId} {A : Option Addr} {rows : List (List Value)} (h : OR w base e k A c rows) (t : TM bad w w') (hb : ∀ cs, ¬ bad (.cells cs e (0, 0))) : OR w' base e k A c rows :=
  h.of_block fun b hb' => by
    obtain ⟨cs, hc⟩ := h.blk b hb'
    rw [hc]; exact t.block b _ hc (hb cs)
theorem MapAt.tm {K : Type} {kv : K → Value} {bad : Obj → Prop} {w w' : World} {m : Nat} {es : List (K × Value)} (h : MapAt kv w m es) (t : TM bad w w') (hb : ∀ a b, ¬ bad (.map a b)) : MapAt kv w' m es := by
  obtain ⟨es0, clock, hm, _⟩ := h.size
  exact h.of_block (by rw [hm]; exact t.block m _ hm (hb _ _))

abbrev Val := Int × Int × List UInt8
/-- The program's post, by its letters and its ways. -/
def PI (n : Nat) (w : World) (g : Nat) (V : List Val) (C : Int × Int → Bool) (room : Int) : Prop :=
  ∃ (R : List Ltr) (A : Option Addr) (cap m : Nat) (es : List ((Int × Int) × Value)), PostR w g R A cap m es room ∧ Fresh n g R A m ∧ R.map Ltr.val = V ∧ ∀ x, C x = (mget es x).isSome
/-- The reference's. -/
def RI (n : Nat) (w : World) (g : Nat) (V : List Val) (C : Int × Int → Bool) (room : Int) (N : Nat) : Prop :=
  ∃ (R : List Ltr) (A : Option Addr) (cap : Nat) (Cs : List (Int × Int)) (B : Option Addr) (capB : Nat), RefR w g R A cap Cs B capB room ∧
    (n ≤ g ∧ (∀ b, A.map (·.block) = some b → n ≤ b) ∧ (∀ b, B.map (·.block) = some b → n ≤ b) ∧ ∀ r ∈ R, ∀ b, r.A.map (·.block) = some b → n ≤ b) ∧ R.map Ltr.val = V ∧ Cs.Nodup ∧ (∀ x, C x = decide (x ∈ Cs)) ∧ Cs.length ≤ N

section
variable {n N : Nat} {w w' : World} {g : Nat} {V : List Val} {C : Int × Int → Bool} {room : Int}
theorem PI.below (h : PI n w g V C room) (hb : Below w.heap.size w w') : PI n w' g V C room := by
  obtain ⟨R, A, cap, m, es, h1, r⟩ := h
  exact ⟨R, A, cap, m, es, h1.below hb, r⟩
theorem RI.below (h : RI n w g V C room N) (hb : Below w.heap.size w w') : RI n w' g V C room N := by
  obtain ⟨R, A, cap, Cs, B, capB, h1, r⟩ := h
  exact ⟨R, A, cap, Cs, B, capB, h1.below hb, r⟩
theorem PI.tm2 {bad : Obj → Prop} (h : PI n w g V C room) (t : TM bad w w') (b1 : ∀ cs, ¬ bad (.cells cs 54 (0, 0))) (b2 : ∀ cs, ¬ bad (.cells cs 59 (0, 0))) (b3 : ∀ cs, ¬ bad (.cells cs 5 (0, 0))) (b4 : ∀ a b, ¬ bad (.map a b)) : PI n w' g V C room := by
  obtain ⟨R, A, cap, m, es, h1, r⟩ := h
  exact ⟨R, A, cap, m, es, ⟨h1.blk.tm t (b1 _), h1.row.tm t b2, fun r hr => ⟨(h1.data r hr).1.tm t b3, (h1.data r hr).2⟩, h1.map.tm t b4, h1.yes, h1.fits⟩, r⟩
theorem PI.tm (h : PI n w g V C room) (t : TM badR w w') : PI n w' g V C room := by
  obtain ⟨R, A, cap, m, es, h1, r⟩ := h
  refine ⟨R, A, cap, m, es, ⟨h1.blk.tm t (by simp [badR]), h1.row.tm t (by simp [badR]), fun r hr => ⟨(h1.data r hr).1.tm t (by simp [badR]), (h1.data r hr).2⟩, h1.map.tm t (by simp [badR]), h1.yes, h1.fits⟩, r⟩
theorem RI.tm (h : RI n w g V C room N) (t : TM badP w w') : RI n w' g V C room N := by
  obtain ⟨R, A, cap, Cs, B, capB, h1, r⟩ := h
  refine ⟨R, A, cap, Cs, B, capB, ⟨h1.blk.tm t (by simp [badP]), h1.row.tm t (by simp [badP]), fun r hr => ⟨(h1.data r hr).1.tm t (by simp [badP]), (h1.data r hr).2⟩, h1.cuts.tm t (by simp [badP]), h1.fits⟩, r⟩
theorem PI.len (h : PI n w g V C room) : (V.length : Int) ≤ room ∧ room ≤ 4096 := by
  obtain ⟨R, A, cap, m, es, h1, _, rfl, _⟩ := h
  rw [List.length_map]
  exact h1.fits
theorem RI.len (h : RI n w g V C room N) : V.length ≤ 4096 := by
  obtain ⟨R, A, cap, Cs, B, capB, h1, _, rfl, _⟩ := h
  rw [List.length_map]
  exact h1.fits.1

theorem PostR.keep {R : List Ltr} {A : Option Addr} {cap m : Nat} {es : List ((Int × Int) × Value)} (h : PostR w g R A cap m es room) (hf : Fresh n g R A m) (hn : n ≤ w.heap.size) (hm : Mods (PF g A) w w') : Keep badP n w w' :=
  ⟨hm.old (Below.refl _ _) hn (fun i _ hi => by
    rcases hi with rfl | hi
    · exact hf.1
    · exact hf.2.2.1 i hi), TM.mods hm fun b o hb hS => by
    rcases hS with rfl | hS
    · rw [show w.heap[b]? = _ from h.blk] at hb
      injection hb with hb
      subst hb
      exact .inl rfl
    · obtain ⟨cs, hc⟩ := h.row.blk b hS
      rw [hc] at hb
      injection hb with hb
      subst hb
      exact .inr rfl⟩
theorem PostR.keep_map {R : List Ltr} {A : Option Addr} {cap m : Nat} {es : List ((Int × Int) × Value)} (h : PostR w g R A cap m es room) (hf : Fresh n g R A m) (hn : n ≤ w.heap.size) (hm : Mods (fun k => k = m) w w') : Keep badP n w w' :=
  ⟨hm.old (Below.refl _ _) hn (fun i _ hi => by subst hi; exact hf.2.1), TM.mods hm fun b o hb hS => by
    subst hS
    obtain ⟨es0, clock, hm0, _⟩ := h.map.size
    rw [hm0] at hb
    injection hb with hb
    subst hb
    trivial⟩
theorem Fresh.put {R : List Ltr} {A A' : Option Addr} {m : Nat} {f t : Int} {D' : Option Addr} {c' : Nat} {d' : List UInt8} (hf : Fresh n g R A m) (hn : n ≤ w.heap.size) (hd : ∀ b, D'.map (·.block) = some b → w.heap.size ≤ b) (ha : A'.map (·.block) = A.map (·.block) ∨ ∀ b, A'.map (·.block) = some b → w.heap.size ≤ b) : Fresh n g (R ++ [⟨f, t, D', c', d'⟩]) A' m :=
  ⟨hf.1, hf.2.1, fun b hb => by
    rcases ha with e | e
    · rw [e] at hb; exact hf.2.2.1 b hb
    · exact Nat.le_trans hn (e b hb), fun r hr b hb => by
    rcases List.mem_append.1 hr with hr | hr
    · exact hf.2.2.2 r hr b hb
    · rw [List.mem_singleton] at hr
      subst hr
      exact Nat.le_trans hn (hd b hb)⟩

/-- What Send answers, and what is on the way behind it. -/
def sendErr (V : List Val) (C : Int × Int → Bool) (room f t : Int) (d : List UInt8) : Int :=
  if okB f t = false then 1 else if 65536 < d.length then 7 else if C (f, t) = true then 11 else if room ≤ (V.length : Int) then 10 else 0
def sendV (V : List Val) (C : Int × Int → Bool) (room f t : Int) (d : List UInt8) : List Val := if sendErr V C room f t d = 0 then V ++ [(f, t, d)] else V

theorem sendErr_range (V : List Val) (C : Int × Int → Bool) (room f t : Int) (d : List UInt8) : 0 ≤ sendErr V C room f t d ∧ sendErr V C room f t d ≤ 11 := by
  unfold sendErr
  repeat' split
  all_goals omega

theorem postSendI (f t : Int) (D : Option Addr) (c : Nat) (d : List UInt8) (h : PI n w g V C room) (hn : n ≤ w.heap.size) (hD : RB w D d) :
    Calls Try.prog 11 #[.pointer (some ⟨g, 0, none⟩), .int .i64 f, .int .i64 t, .slice D d.length c] w fun e w' => e = .returned (.int .i64 (sendErr V C room f t d)) ∧ PI n w' g (sendV V C room f t d) C room ∧ Keep badP n w w' := by
  have h0 := h
  obtain ⟨R, A, cap, m, es, h1, hf, rfl, hC⟩ := h
  have same : ∀ er : Int, er ≠ 0 → sendErr (R.map Ltr.val) C room f t d = er → ∀ (e : Ending) (w' : World), (e = .returned (.int .i64 er) ∧ Below w.heap.size w w') → e = .returned (.int .i64 (sendErr (R.map Ltr.val) C room f t d)) ∧ PI n w' g (sendV (R.map Ltr.val) C room f t d) C room ∧ Keep badP n w w' := by
    rintro er hne he e w' ⟨rfl, hb⟩
    refine ⟨by rw [he], ?_, .of_below hb hn⟩
    rw [sendV, he, if_neg hne]
    exact h0.below hb
  cases hok : okB f t
  · exact (postSend_bad f t D d.length c w hok).mono (same 1 (by decide) (by rw [sendErr, if_pos hok]))
  · by_cases hd : 65536 < d.length
    · exact (postSend_large f t D d.length c w hok hd).mono (same 7 (by decide) (by rw [sendErr, if_neg (by simp [hok]), if_pos hd]))
    · cases hc : C (f, t)
      · have hg : mget es (f, t) = none := by rw [hC] at hc; simpa using hc
        by_cases hr : room ≤ (R.length : Int)
        · exact (postSend_full f t D c d w h1 hok (by omega) hg hr).mono (same 10 (by decide) (by rw [sendErr, if_neg (by simp [hok]), if_neg hd, if_neg (by simp [hc]), if_pos (by rw [List.length_map]; exact hr)]))
        · have he : sendErr (R.map Ltr.val) C room f t d = 0 := by rw [sendErr, if_neg (by simp [hok]), if_neg hd, if_neg (by simp [hc]), if_neg (by rw [List.length_map]; exact hr)]
          refine (postSend f t D c d w h1 hok (by omega) hg (by omega) hD).mono ?_
          rintro e w' ⟨A', cap', D', c', d', rfl, hd', hp, hm, hdf, haf⟩
          refine ⟨by rw [he], ⟨_, A', cap', m, es, hp, hf.put hn hdf haf, ?_, hC⟩, h1.keep hf hn hm⟩
          rw [sendV, if_pos he, List.map_append, ← hd'.out]
          rfl
      · have hg : mget es (f, t) ≠ none := by rw [hC] at hc; intro e; rw [e] at hc; cases hc
        exact (postSend_cut f t D d.length c w h1 hok (by omega) hg).mono (same 11 (by decide) (by rw [sendErr, if_neg (by simp [hok]), if_neg hd, if_pos hc]))

theorem postLenI (h : PI n w g V C room) : Calls Try.prog 14 #[.pointer (some ⟨g, 0, none⟩)] w fun e w' => e = .returned (.int .i64 (V.length : Int)) ∧ w = w' := by
  obtain ⟨R, A, cap, m, es, h1, hf, rfl, hC⟩ := h
  rw [List.length_map]
  exact postLen w h1

/-- The letter at a place, and the error. -/
def atV (V : List Val) (i : Int) : Val × Int := if 0 ≤ i ∧ i < (V.length : Int) then (V.getD i.toNat (0, 0, []), 0) else ((0, 0, []), 8)

theorem postLookI (i : Int) (h : PI n w g V C room) (hi : -9223372036854775808 ≤ i ∧ i ≤ 9223372036854775807) : Calls Try.prog 17 #[.pointer (some ⟨g, 0, none⟩), .int .i64 i] w (LookE (atV V i).1.1 (atV V i).1.2.1 (atV V i).1.2.2 (atV V i).2 w) := by
  obtain ⟨R, A, cap, m, es, h1, hf, rfl, hC⟩ := h
  by_cases hr : 0 ≤ i ∧ i < ((R.map Ltr.val).length : Int)
  · rw [atV, if_pos hr]
    rw [List.length_map] at hr
    obtain ⟨k, rfl⟩ : ∃ k : Nat, i = (k : Int) := ⟨i.toNat, by omega⟩
    have hk : k < R.length := by omega
    have := postLook_in k w h1 hk
    simpa [Ltr.val, hk] using this
  · rw [atV, if_neg hr]
    rw [List.length_map] at hr
    exact postLook_out i w h1 (by omega) hi

/-- What Take answers. -/
def TakeI (n g : Nat) (V : List Val) (C : Int × Int → Bool) (room i : Int) (w : World) (e : Ending) (w' : World) : Prop :=
  ∃ (D : Option Addr) (c : Nat) (d : List UInt8), e = .returned (.tuple #[.int .i64 (atV V i).1.1, .int .i64 (atV V i).1.2.1, .slice D d.length c, .int .i64 (atV V i).2]) ∧ Hid (d = (atV V i).1.2.2) ∧ d.length ≤ 65536 ∧ OB w' 0 D c d ∧
    PI n w' g (if (atV V i).2 = 0 then V.eraseIdx i.toNat else V) C room ∧ Keep badP n w w'

theorem postTakeI (i : Int) (h : PI n w g V C room) (hn : n ≤ w.heap.size) (hi : -9223372036854775808 ≤ i ∧ i ≤ 9223372036854775807) : Calls Try.prog 15 #[.pointer (some ⟨g, 0, none⟩), .int .i64 i] w (TakeI n g V C room i w) := by
  have h0 := h
  obtain ⟨R, A, cap, m, es, h1, hf, rfl, hC⟩ := h
  unfold TakeI
  by_cases hr : 0 ≤ i ∧ i < ((R.map Ltr.val).length : Int)
  · have hat : atV (R.map Ltr.val) i = ((R.map Ltr.val).getD i.toNat (0, 0, []), 0) := by rw [atV, if_pos hr]
    rw [List.length_map] at hr
    obtain ⟨k, rfl⟩ : ∃ k : Nat, i = (k : Int) := ⟨i.toNat, by omega⟩
    have hk : k < R.length := by omega
    have hgd : (R.map Ltr.val).getD k (0, 0, []) = (R[k].f, R[k].t, R[k].d) := by simp [Ltr.val, hk]
    rw [Int.toNat_natCast, hgd] at hat
    rw [hat]
    refine (postTake k w h1 hk).mono ?_
    rintro e w' ⟨rfl, hp, hm, ho⟩
    refine ⟨R[k].A, R[k].c, R[k].d, rfl, Lib.hid rfl, (h1.data _ (List.getElem_mem hk)).2, ho, ?_, h1.keep hf hn hm⟩
    rw [if_pos rfl, Int.toNat_natCast]
    exact ⟨_, A, cap, m, es, hp, ⟨hf.1, hf.2.1, hf.2.2.1, fun r hr => hf.2.2.2 r (mem_erase hr)⟩, (eraseIdx_map' _ _ _).symm, hC⟩
  · have hat : atV (R.map Ltr.val) i = ((0, 0, []), 8) := by rw [atV, if_neg hr]
    rw [hat]
    rw [List.length_map] at hr
    refine (postTake_out i w h1 (by omega) hi).mono ?_
    rintro e w' ⟨rfl, hb⟩
    exact ⟨none, 0, [], rfl, Lib.hid rfl, by simp, OB.nil _ _, by simpa using h0.below hb, .of_below hb hn⟩

def twinErr (V : List Val) (room i : Int) : Int := if 0 ≤ i ∧ i < (V.length : Int) then (if room ≤ (V.length : Int) then 10 else 0) else 8
theorem postTwinI (i : Int) (h : PI n w g V C room) (hn : n ≤ w.heap.size) (hi : -9223372036854775808 ≤ i ∧ i ≤ 9223372036854775807) : Calls Try.prog 16 #[.pointer (some ⟨g, 0, none⟩), .int .i64 i] w fun e w' => e = .returned (.int .i64 (twinErr V room i)) ∧
    PI n w' g (if twinErr V room i = 0 then V ++ [(atV V i).1] else V) C room ∧ Keep badP n w w' := by
  have h0 := h
  obtain ⟨R, A, cap, m, es, h1, hf, rfl, hC⟩ := h
  by_cases hr : 0 ≤ i ∧ i < ((R.map Ltr.val).length : Int)
  · have hat : atV (R.map Ltr.val) i = ((R.map Ltr.val).getD i.toNat (0, 0, []), 0) := by rw [atV, if_pos hr]
    unfold twinErr
    rw [if_pos hr]
    rw [List.length_map] at hr ⊢
    obtain ⟨k, rfl⟩ : ∃ k : Nat, i = (k : Int) := ⟨i.toNat, by omega⟩
    have hk : k < R.length := by omega
    have hgd : (R.map Ltr.val).getD k (0, 0, []) = (R[k].f, R[k].t, R[k].d) := by simp [Ltr.val, hk]
    rw [Int.toNat_natCast, hgd] at hat
    rw [hat]
    by_cases hfull : room ≤ (R.length : Int)
    · rw [if_pos hfull]
      refine (postTwin_full k w h1 hk hfull).mono ?_
      rintro e w' ⟨rfl, hb⟩
      exact ⟨rfl, by simpa using h0.below hb, .of_below hb hn⟩
    · rw [if_neg hfull]
      refine (postTwin k w h1 hk (by omega)).mono ?_
      rintro e w' ⟨A', cap', D', c', d', rfl, hd', hp, hm, hdf, haf⟩
      refine ⟨rfl, ?_, h1.keep hf hn hm⟩
      rw [if_pos rfl]
      refine ⟨_, A', cap', m, es, hp, hf.put hn hdf haf, ?_, hC⟩
      rw [List.map_append, ← hd'.out]
      rfl
  · unfold twinErr
    rw [if_neg hr]
    rw [List.length_map] at hr
    refine (postTwin_out i w h1 (by omega) hi).mono ?_
    rintro e w' ⟨rfl, hb⟩
    exact ⟨rfl, by simpa using h0.below hb, .of_below hb hn⟩

def setC (C : Int × Int → Bool) (x : Int × Int) (b : Bool) (y : Int × Int) : Bool := if y = x then b else C y

theorem mget_mput {es : List ((Int × Int) × Value)} {x y : Int × Int} {v : Value} : (mget (mput es x v) y).isSome = (if y = x then true else (mget es y).isSome) := by
  have key : ∀ l : List ((Int × Int) × Value), (mget l y).isSome = decide (y ∈ l.map Prod.fst) := by
    intro l
    cases h : mget l y with
    | none => simp [mget_none.1 h]
    | some v =>
      have : y ∈ l.map Prod.fst := List.mem_map.2 ⟨(y, v), mget_mem h, rfl⟩
      simp [this]
  rw [key, key]
  unfold mput
  by_cases hx : x ∈ es.map Prod.fst
  · rw [if_pos hx]
    have : (es.map fun p => if p.1 = x then (x, v) else p).map Prod.fst = es.map Prod.fst := by
      rw [List.map_map]
      refine List.map_congr_left fun p _ => ?_
      simp only [Function.comp]
      split
      · rename_i e; exact e.symm
      · rfl
    rw [this]
    by_cases hy : y = x
    · subst hy; simp [hx]
    · simp [hy]
  · rw [if_neg hx, List.map_append]
    by_cases hy : y = x
    · subst hy; simp
    · simp [hy]
theorem mget_mdel {es : List ((Int × Int) × Value)} {x y : Int × Int} : (mget (mdel es x) y).isSome = (if y = x then false else (mget es y).isSome) := by
  have key : ∀ l : List ((Int × Int) × Value), (mget l y).isSome = decide (y ∈ l.map Prod.fst) := by
    intro l
    cases h : mget l y with
    | none => simp [mget_none.1 h]
    | some v =>
      have : y ∈ l.map Prod.fst := List.mem_map.2 ⟨(y, v), mget_mem h, rfl⟩
      simp [this]
  rw [key, key]
  unfold mdel
  have hiff : y ∈ (es.filter fun p => p.1 ≠ x).map Prod.fst ↔ y ≠ x ∧ y ∈ es.map Prod.fst := by
    simp only [List.mem_map, List.mem_filter, ne_eq, decide_not, Bool.not_eq_eq_eq_not, Bool.not_true, decide_eq_false_iff_not]
    constructor
    · rintro ⟨p, ⟨hp, hne⟩, rfl⟩; exact ⟨hne, p, hp, rfl⟩
    · rintro ⟨hne, p, hp, rfl⟩; exact ⟨p, ⟨hp, hne⟩, rfl⟩
  by_cases hy : y = x
  · rw [if_pos hy]
    simp only [decide_eq_false_iff_not, hiff]
    exact fun h => h.1 hy
  · rw [if_neg hy]
    congr 1
    rw [hiff]
    simp [hy]

theorem postCutI (f t : Int) (h : PI n w g V C room) (hn : n ≤ w.heap.size) : Calls Try.prog 12 #[.pointer (some ⟨g, 0, none⟩), .int .i64 f, .int .i64 t] w fun e w' => e = .returned (.int .i64 (if okB f t = true then 0 else 1)) ∧
    PI n w' g V (if okB f t = true then setC C (f, t) true else C) room ∧ Keep badP n w w' := by
  have h0 := h
  obtain ⟨R, A, cap, m, es, h1, hf, rfl, hC⟩ := h
  cases hok : okB f t
  · refine (postCut_bad f t w hok).mono ?_
    rintro e w' ⟨rfl, hb⟩
    exact ⟨rfl, by simpa using h0.below hb, .of_below hb hn⟩
  · refine (postCut f t w h1 hok).mono ?_
    rintro e w' ⟨rfl, hp, hm⟩
    refine ⟨rfl, ?_, h1.keep_map hf hn hm⟩
    rw [if_pos rfl]
    refine ⟨R, A, cap, m, _, hp, hf, rfl, fun x => ?_⟩
    rw [mget_mput, setC, hC]
theorem postHealI (f t : Int) (h : PI n w g V C room) (hn : n ≤ w.heap.size) : Calls Try.prog 13 #[.pointer (some ⟨g, 0, none⟩), .int .i64 f, .int .i64 t] w fun e w' => e = .returned (.int .i64 (if okB f t = true then 0 else 1)) ∧
    PI n w' g V (if okB f t = true then setC C (f, t) false else C) room ∧ Keep badP n w w' := by
  have h0 := h
  obtain ⟨R, A, cap, m, es, h1, hf, rfl, hC⟩ := h
  cases hok : okB f t
  · refine (postHeal_bad f t w hok).mono ?_
    rintro e w' ⟨rfl, hb⟩
    exact ⟨rfl, by simpa using h0.below hb, .of_below hb hn⟩
  · refine (postHeal f t w h1 hok).mono ?_
    rintro e w' ⟨rfl, hp, hm⟩
    refine ⟨rfl, ?_, h1.keep_map hf hn hm⟩
    rw [if_pos rfl]
    refine ⟨R, A, cap, m, _, hp, hf, rfl, fun x => ?_⟩
    rw [mget_mdel, setC, hC]
theorem postCopyI (h : PI n w g V C room) (hn : n ≤ w.heap.size) : Calls Try.prog 18 #[.pointer (some ⟨g, 0, none⟩)] w fun e w' => ∃ g', e = .returned (.pointer (some ⟨g', 0, none⟩)) ∧ PI w.heap.size w' g' V C room ∧ Below w.heap.size w w' := by
  obtain ⟨R, A, cap, m, es, h1, hf, rfl, hC⟩ := h
  refine (postCopy w h1).mono ?_
  rintro e w' ⟨g', R', A', cap', m', rfl, hv, hp, hfr, hb⟩
  exact ⟨g', rfl, ⟨R', A', cap', m', es, hp, hfr, hv, hC⟩, hb⟩
theorem PI.mono {n' : Nat} (h : PI n w g V C room) (hn : n' ≤ n) : PI n' w g V C room := by
  obtain ⟨R, A, cap, m, es, h1, hf, hv, hC⟩ := h
  exact ⟨R, A, cap, m, es, h1, ⟨Nat.le_trans hn hf.1, Nat.le_trans hn hf.2.1, fun b hb => Nat.le_trans hn (hf.2.2.1 b hb), fun r hr b hb => Nat.le_trans hn (hf.2.2.2 r hr b hb)⟩, hv, hC⟩
theorem postNewI (room : Int) (h0 : 0 ≤ room) (h1 : room ≤ 4096) : Calls Try.prog 8 #[.int .i64 room] w fun e w' => ∃ g', e = .returned (.tuple #[.pointer (some ⟨g', 0, none⟩), .int .i64 0]) ∧ PI w.heap.size w' g' [] (fun _ => false) room ∧ Below w.heap.size w w' := by
  refine (postNew room h0 h1 w).mono ?_
  rintro e w' ⟨rfl, hp, hb⟩
  exact ⟨_, rfl, ⟨[], none, 0, _, [], hp, ⟨by omega, Nat.le_refl _, by simp, by simp⟩, rfl, fun x => rfl⟩, hb⟩
end
end Go.Proofs.Ytihmnkkhccihpaa
