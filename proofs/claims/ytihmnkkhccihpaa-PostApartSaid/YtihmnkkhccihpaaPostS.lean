/- A post told by its letters, its ways and the blocks that it lies in. -/
import Derived.Test.YtihmnkkhccihpaaPostKA
namespace Go.Proofs.Ytihmnkkhccihpaa
open Go.RowKit

/-- All blocks of a post are of S. -/
def LiesS (S : Nat → Prop) (g : Nat) (R : List Ltr) (A : Option Addr) (m : Nat) : Prop :=
  S g ∧ S m ∧ (∀ b, A.map (·.block) = some b → S b) ∧ ∀ r ∈ R, ∀ b, r.A.map (·.block) = some b → S b
def PIS (S : Nat → Prop) (w : World) (g : Nat) (V : List Val) (C : Int × Int → Bool) (room : Int) : Prop :=
  ∃ (R : List Ltr) (A : Option Addr) (cap m : Nat) (es : List ((Int × Int) × Value)), PostR w g R A cap m es room ∧ LiesS S g R A m ∧ R.map Ltr.val = V ∧ ∀ x, C x = (mget es x).isSome

section
variable {n : Nat} {S : Nat → Prop} {w w' : World} {g : Nat} {V : List Val} {C : Int × Int → Bool} {room : Int}
theorem PostR.of_blocks {R : List Ltr} {A : Option Addr} {cap m : Nat} {es : List ((Int × Int) × Value)} (h : PostR w g R A cap m es room) (hl : LiesS S g R A m) (hk : ∀ i, S i → w'.heap[i]? = w.heap[i]?) : PostR w' g R A cap m es room :=
  ⟨by unfold Blk; rw [hk g hl.1]; exact h.blk, h.row.of_block fun b hb => hk b (hl.2.2.1 b hb), fun r hr => ⟨(h.data r hr).1.of_block fun b hb => hk b (hl.2.2.2 r hr b hb), (h.data r hr).2⟩, h.map.of_block (hk m hl.2.1), h.yes, h.fits⟩
theorem PIS.of_blocks (h : PIS S w g V C room) (hk : ∀ i, S i → w'.heap[i]? = w.heap[i]?) : PIS S w' g V C room := by
  obtain ⟨R, A, cap, m, es, h1, hl, r⟩ := h
  exact ⟨R, A, cap, m, es, h1.of_blocks hl hk, hl, r⟩
theorem PIS.pi (h : PIS S w g V C room) (hn : ∀ i, S i → n ≤ i) : PI n w g V C room := by
  obtain ⟨R, A, cap, m, es, h1, hl, r⟩ := h
  exact ⟨R, A, cap, m, es, h1, ⟨hn _ hl.1, hn _ hl.2.1, fun b hb => hn b (hl.2.2.1 b hb), fun q hq b hb => hn b (hl.2.2.2 q hq b hb)⟩, r⟩
theorem PIS.mono {T : Nat → Prop} (h : PIS S w g V C room) (hn : ∀ i, S i → T i) : PIS T w g V C room := by
  obtain ⟨R, A, cap, m, es, h1, hl, r⟩ := h
  exact ⟨R, A, cap, m, es, h1, ⟨hn _ hl.1, hn _ hl.2.1, fun b hb => hn b (hl.2.2.1 b hb), fun q hq b hb => hn b (hl.2.2.2 q hq b hb)⟩, r⟩
theorem PI.pis (h : PI n w g V C room) : PIS (fun i => n ≤ i ∧ i < w.heap.size) w g V C room := by
  obtain ⟨R, A, cap, m, es, h1, hf, r⟩ := h
  exact ⟨R, A, cap, m, es, h1, ⟨⟨hf.1, h1.blk.lt⟩, ⟨hf.2.1, h1.map.lt⟩, fun b hb => ⟨hf.2.2.1 b hb, (h1.row.blk_lt b hb).2⟩, fun q hq b hb => ⟨hf.2.2.2 q hq b hb, ((h1.data q hq).1.blk_lt b hb).2⟩⟩, r⟩
theorem PIS.lt (h : PIS S w g V C room) : PIS (fun i => S i ∧ i < w.heap.size) w g V C room := by
  obtain ⟨R, A, cap, m, es, h1, hf, r⟩ := h
  exact ⟨R, A, cap, m, es, h1, ⟨⟨hf.1, h1.blk.lt⟩, ⟨hf.2.1, h1.map.lt⟩, fun b hb => ⟨hf.2.2.1 b hb, (h1.row.blk_lt b hb).2⟩, fun q hq b hb => ⟨hf.2.2.2 q hq b hb, ((h1.data q hq).1.blk_lt b hb).2⟩⟩, r⟩
theorem PIS.below (h : PIS S w g V C room) (hs : ∀ i, S i → i < w.heap.size) (hb : Below w.heap.size w w') : PIS S w' g V C room := h.of_blocks fun i hi => hb.block i (hs i hi)

theorem postHealS (f t : Int) (h : PIS S w g V C room) (hok : okB f t = true) : Calls Try.prog 13 #[.pointer (some ⟨g, 0, none⟩), .int .i64 f, .int .i64 t] w fun e w' => e = .returned (.int .i64 0) ∧
    PIS S w' g V (setC C (f, t) false) room ∧ Mods S w w' ∧ TM badP w w' := by
  obtain ⟨R, A, cap, m, es, h1, hl, rfl, hC⟩ := h
  refine (postHeal f t w h1 hok).mono ?_
  rintro e w' ⟨rfl, hp, hm⟩
  refine ⟨rfl, ⟨R, A, cap, m, _, hp, hl, rfl, fun x => ?_⟩, hm.mono fun i _ hi => by subst hi; exact hl.2.1, TM.mods hm fun b o hb hS => ?_⟩
  · rw [mget_mdel, setC, hC]
  · subst hS
    obtain ⟨es0, clock, hm0, _⟩ := h1.map.size
    rw [hm0] at hb
    injection hb with hb
    subst hb
    trivial

/-- Send, any letter. -/
theorem postSendS (f t : Int) (D : Option Addr) (c : Nat) (d : List UInt8) (h : PIS S w g V C room) (hD : RB w D d) :
    Calls Try.prog 11 #[.pointer (some ⟨g, 0, none⟩), .int .i64 f, .int .i64 t, .slice D d.length c] w fun e w' => e = .returned (.int .i64 (sendErr V C room f t d)) ∧
      PIS (fun i => S i ∨ w.heap.size ≤ i) w' g (sendV V C room f t d) C room ∧ Mods S w w' ∧ TM badP w w' := by
  obtain ⟨R, A, cap, m, es, h1, hl, rfl, hC⟩ := h
  have hsm : ∀ i, S i → (S i ∨ w.heap.size ≤ i) := fun i hi => .inl hi
  have hl' : LiesS (fun i => S i ∨ w.heap.size ≤ i) g R A m := ⟨.inl hl.1, .inl hl.2.1, fun b hb => .inl (hl.2.2.1 b hb), fun q hq b hb => .inl (hl.2.2.2 q hq b hb)⟩
  have same : ∀ er : Int, er ≠ 0 → sendErr (R.map Ltr.val) C room f t d = er → ∀ (e : Ending) (w' : World), (e = .returned (.int .i64 er) ∧ Below w.heap.size w w') → e = .returned (.int .i64 (sendErr (R.map Ltr.val) C room f t d)) ∧ PIS (fun i => S i ∨ w.heap.size ≤ i) w' g (sendV (R.map Ltr.val) C room f t d) C room ∧ Mods S w w' ∧ TM badP w w' := by
    rintro er hne he e w' ⟨rfl, hb⟩
    refine ⟨by rw [he], ?_, .of_below hb, TM.below hb⟩
    rw [sendV, he, if_neg hne]
    exact ⟨R, A, cap, m, es, h1.below hb, hl', rfl, hC⟩
  cases hok : okB f t
  · exact (postSend_bad f t D d.length c w hok).mono (same 1 (by decide) (by rw [sendErr, if_pos hok]))
  · by_cases hd : 65536 < d.length
    · exact (postSend_large f t D d.length c w hok hd).mono (same 7 (by decide) (by rw [sendErr, if_neg (by simp [hok]), if_pos hd]))
    · cases hc : C (f, t)
      · have hg : mget es (f, t) = none := by rw [hC] at hc; simpa using hc
        by_cases hr : room ≤ (R.length : Int)
        · exact (postSend_full f t D c d w h1 hok (by omega) hg hr).mono (same 10 (by decide) (by rw [sendErr, if_neg (by simp [hok]), if_neg hd, if_neg (by simp [hc]), if_pos (by rw [List.length_map]; exact hr)]))
        · have he : sendErr (R.map Ltr.val) C room f t d = 0 := by rw [sendErr, if_neg (by simp [hok]), if_neg hd, if_neg (by simp [hc]), if_neg (by rw [List.length_map]; exact hr)]
          refine (postSend f t D c d w h1 hok (by omega) hg (by omega) hD).mono ?_
          rintro e w' ⟨A', cap', D', c', d', rfl, hd', hp, hm, hdf, haf⟩
          refine ⟨by rw [he], ⟨_, A', cap', m, es, hp, ⟨.inl hl.1, .inl hl.2.1, fun b hb => ?_, fun r hr b hb => ?_⟩, ?_, hC⟩, hm.mono fun i _ hi => ?_, TM.mods hm fun b o hb hS => ?_⟩
          · rcases haf with e | e
            · rw [e] at hb; exact .inl (hl.2.2.1 b hb)
            · exact .inr (e b hb)
          · rcases List.mem_append.1 hr with hr | hr
            · exact .inl (hl.2.2.2 r hr b hb)
            · rw [List.mem_singleton] at hr
              subst hr
              exact .inr (hdf b hb)
          · rw [sendV, if_pos he, List.map_append, ← hd'.out]
            rfl
          · rcases hi with rfl | hi
            · exact hl.1
            · exact hl.2.2.1 i hi
          · rcases hS with rfl | hS
            · rw [show w.heap[b]? = _ from h1.blk] at hb
              injection hb with hb
              subst hb
              exact .inl rfl
            · obtain ⟨cs, hc⟩ := h1.row.blk b hS
              rw [hc] at hb
              injection hb with hb
              subst hb
              exact .inr rfl
      · have hg : mget es (f, t) ≠ none := by rw [hC] at hc; intro e; rw [e] at hc; cases hc
        exact (postSend_cut f t D d.length c w h1 hok (by omega) hg).mono (same 11 (by decide) (by rw [sendErr, if_neg (by simp [hok]), if_neg hd, if_pos hc]))
end
end Go.Proofs.Ytihmnkkhccihpaa
