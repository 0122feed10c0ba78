/- The walk of DiskSwaps. -/
import Derived.Test.YthdmnajcphaekaaDoorGrown
import Derived.Test.YthdmnajcphaekaaDoorWDiskC
namespace Go.Proofs.YthdmnajcphaekaaDoor
open Go.RowKit

/-- Files are told by what is got of them. -/
theorem fget_head {p : Nm × List UInt8} {F : FS} : fget (p :: F) p.1 = some p.2 := by rw [fget_cons, if_pos rfl]
theorem fget_low {F : FS} {n : Nm} (h : ∀ q ∈ F, n < q.1) : fget F n = none := by
  rw [fget_none]
  intro hm
  obtain ⟨q, hq, e⟩ := List.mem_map.1 hm
  have := h q hq
  rw [e] at this
  exact nm_lt_irrefl _ this
theorem fs_ext : ∀ {F G : FS}, Rising F → Rising G → (∀ n, fget F n = fget G n) → F = G
  | [], [], _, _, _ => rfl
  | [], q :: G, _, _, h => by have := h q.1; rw [fget_head] at this; cases this
  | p :: F, [], _, _, h => by have := h p.1; rw [fget_head] at this; cases this
  | p :: F, q :: G, hF, hG, h => by
    have hF' := List.pairwise_cons.1 hF
    have hG' := List.pairwise_cons.1 hG
    have hk : p.1 = q.1 := by
      refine Classical.byContradiction fun hne => ?_
      by_cases hlt : p.1 < q.1
      · have h1 := h p.1
        rw [fget_head, fget_low (n := p.1) (fun r hr => by
          rcases List.mem_cons.1 hr with rfl | hr
          · exact hlt
          · exact nm_trans hlt (hG'.1 r hr))] at h1
        cases h1
      · have hgt := nm_tri _ _ hlt hne
        have h1 := h q.1
        rw [fget_head, fget_low (n := q.1) (fun r hr => by
          rcases List.mem_cons.1 hr with rfl | hr
          · exact hgt
          · exact nm_trans hgt (hF'.1 r hr))] at h1
        cases h1
    have hv : p.2 = q.2 := by
      have h1 := h p.1
      rw [fget_head, hk, fget_head] at h1
      exact Option.some.inj h1
    have hpq : p = q := Prod.ext hk hv
    subst hpq
    have hr : F = G := fs_ext hF'.2 hG'.2 fun n => by
      by_cases hn : p.1 = n
      · subst hn
        rw [fget_low hF'.1, fget_low hG'.1]
      · have h1 := h n
        rw [fget_cons, if_neg hn, fget_cons, if_neg hn] at h1
        exact h1
    rw [hr]
def updF (u : Wr) (o : Option (List UInt8)) : Option (List UInt8) := if u.kind = 1 then some (putD (o.getD []) u.off u.data) else if u.kind = 2 then some (resizeD (o.getD []) u.off) else none
theorem fget_do (F : FS) (u : Wr) (hk : u.kind = 1 ∨ u.kind = 2 ∨ u.kind = 3) (n : Nm) : fget (doF F u) n = if n = u.name then updF u (fget F u.name) else fget F n := by
  unfold doF updF
  rcases hk with hk | hk | hk
  · rw [if_pos hk, if_pos hk, fget_fset]
  · have h1 : ¬ u.kind = 1 := by omega
    rw [if_neg h1, if_pos hk, if_neg h1, if_pos hk, fget_fset]
  · have h1 : ¬ u.kind = 1 := by omega
    have h2 : ¬ u.kind = 2 := by omega
    rw [if_neg h1, if_neg h2, if_pos hk, if_neg h1, if_neg h2, fget_fdel]
theorem do_swap {F : FS} (hF : Rising F) {u v : Wr} (hu : u.kind = 1 ∨ u.kind = 2 ∨ u.kind = 3) (hv : v.kind = 1 ∨ v.kind = 2 ∨ v.kind = 3) (hne : u.name ≠ v.name) : doF (doF F u) v = doF (doF F v) u :=
  fs_ext (rising_do (rising_do hF u) v) (rising_do (rising_do hF v) u) fun n => by
    rw [fget_do (doF F u) v hv n, fget_do (doF F v) u hu n, fget_do F u hu n, fget_do F u hu v.name, fget_do F v hv u.name, fget_do F v hv n]
    have hne' : ¬ v.name = u.name := fun e => hne e.symm
    by_cases h1 : n = u.name
    · rw [h1, if_pos rfl, if_neg hne, if_pos rfl, if_neg hne]
    · by_cases h2 : n = v.name
      · rw [h2, if_pos rfl, if_neg hne', if_neg hne', if_pos rfl]
      · rw [if_neg h1, if_neg h2, if_neg h1, if_neg h2]
theorem act_change {kind : Int} (h : 1 ≤ kind ∧ kind ≤ 3) (name : Nm) (n : Int) (data : List UInt8) (mask : Nat) : ∃ (u : Wr) (off : Int), u.name = name ∧ (u.kind = 1 ∨ u.kind = 2 ∨ u.kind = 3) ∧ ∀ D : DSt, actD D kind name n data mask = (changeD D u off).2 := by
  have hk : kind = 1 ∨ kind = 2 ∨ kind = 3 := by omega
  rcases hk with rfl | rfl | rfl
  · exact ⟨⟨1, name, n.toNat, data⟩, n, rfl, .inl rfl, fun _ => rfl⟩
  · exact ⟨⟨2, name, n.toNat, []⟩, n, rfl, .inr (.inl rfl), fun _ => rfl⟩
  · exact ⟨⟨3, name, 0, []⟩, 0, rfl, .inr (.inr rfl), fun _ => rfl⟩
theorem change_uns (D : DSt) (u : Wr) (off : Int) : (changeD D u off).2.unsure = D.unsure ∨ (changeD D u off).2.unsure = D.unsure ++ [u] := by
  unfold changeD
  split
  · exact .inl rfl
  · split
    · exact .inl (burnD_unsure D)
    · refine .inr ?_
      show (burnD D).unsure ++ [u] = D.unsure ++ [u]
      rw [burnD_unsure]
theorem act_swap {D : DSt} (hr : Rising D.sure) {k1 k2 : Int} (h1 : 1 ≤ k1 ∧ k1 ≤ 3) (h2 : 1 ≤ k2 ∧ k2 ≤ 3) {n1 n2 : Nm} (hne : n1 ≠ n2) (o1 o2 : Int) (d1 d2 : List UInt8) (m1 m2 : Nat)
    (ha : (actD (actD D k1 n1 o1 d1 m1) k2 n2 o2 d2 m2).unsure.length = D.unsure.length + 2) (hb : (actD (actD D k2 n2 o2 d2 m2) k1 n1 o1 d1 m1).unsure.length = D.unsure.length + 2) :
    (actD (actD D k1 n1 o1 d1 m1) k2 n2 o2 d2 m2).files = (actD (actD D k2 n2 o2 d2 m2) k1 n1 o1 d1 m1).files := by
  have s1 : (actD (actD D k1 n1 o1 d1 m1) k2 n2 o2 d2 m2).sure = D.sure := by rw [act_sure h2, act_sure h1]
  have s2 : (actD (actD D k2 n2 o2 d2 m2) k1 n1 o1 d1 m1).sure = D.sure := by rw [act_sure h1, act_sure h2]
  obtain ⟨u, ou, eu, ku, hu⟩ := act_change h1 n1 o1 d1 m1
  obtain ⟨v, ov, ev, kv, hv⟩ := act_change h2 n2 o2 d2 m2
  have t1 : (actD (actD D k1 n1 o1 d1 m1) k2 n2 o2 d2 m2).unsure = D.unsure ++ [u, v] := by
    rw [hv, hu] at ha ⊢
    rcases change_uns D u ou with e1 | e1 <;> rcases change_uns (changeD D u ou).2 v ov with e2 | e2 <;> rw [e2, e1] at ha ⊢ <;> simp at ha ⊢
  have t2 : (actD (actD D k2 n2 o2 d2 m2) k1 n1 o1 d1 m1).unsure = D.unsure ++ [v, u] := by
    rw [hu, hv] at hb ⊢
    rcases change_uns D v ov with e1 | e1 <;> rcases change_uns (changeD D v ov).2 u ou with e2 | e2 <;> rw [e2, e1] at hb ⊢ <;> simp at hb ⊢
  unfold DSt.files
  rw [t1, t2, s1, s2, List.foldl_append, List.foldl_append]
  exact do_swap (rising_foldl hr) ku kv (by rw [eu, ev]; exact hne)

theorem rdisk_size : (Tryd.prog.info? 42).map (·.size) = some 5 := by kernel_rfl
/-- A second disk of the reference, made of the first one's cells and a row of its own. -/
theorem RR.copied {M S : Nat → Prop} {w w' : World} {g cu c cu' x : Nat} {A B B' : Option Addr} {L : List FRow} {U : List (Wr × Option Addr × Nat)} {D : DSt} (h : RR M S w g A c L B cu U D) (hb : Below w.heap.size w w')
    (hx : Blk w' x 42 #[.slice A L.length c, .slice B' U.length cu', .int .i64 D.room, .int .i64 D.fuse, .bool D.down]) (hxs : w.heap.size ≤ x) (hrow : OR w' w.heap.size 73 4 B' cu' (U.map wrRow)) :
    RI (fun b => b = x ∨ B'.map (·.block) = some b) (fun b => M b ∨ S b) w' x D := by
  have h' := h.below hb
  have hs := hb.size
  refine ⟨A, c, L, B', cu', U, ⟨hx, h'.sure.mono fun b _ hS => .inr hS, ⟨hrow.mono (Nat.zero_le _), fun b hb => .inr hb, h'.uns.rb, fun p hp h0 b hb => .inr (h'.uns.dat p hp h0 b hb), h'.uns.cap⟩, .inl rfl, h'.vs, h'.vu, h'.ris, h'.ok, fun b hb hM => ?_, fun b hb => ?_⟩⟩
  · have := h.bnd b hb
    rcases hM with rfl | hM
    · omega
    · have := (hrow.blk_lt b hM).1; omega
  · rcases hb with (rfl | hM) | hb
    · exact hx.lt
    · exact (hrow.blk_lt b hM).2
    · have := h.bnd b hb; omega
theorem Pair2.two {F Z T M S : Nat → Prop} {w0 w w' : World} {d g : Nat} {D E : DSt} (h : Pair2 T M S w d D g E w') (hF : ∀ b, T b ∨ M b → F b ∨ News w0 w b) (hZ : ∀ b, S b → Z b ∨ News w0 w b) (m0 : Mods F w0 w) :
    ∃ T' M' S' : Nat → Prop, Pair T' M' S' w' d D g E ∧ (∀ b, T' b ∨ M' b → F b ∨ News w0 w' b) ∧ (∀ b, S' b → Z b ∨ News w0 w' b) ∧ Mods F w0 w' := by
  obtain ⟨⟨T', M', S', hp, hT, hM, hS⟩, m⟩ := h
  have hs := m0.size
  have hs' := m.size
  have key : ∀ b, (T b ∨ M b) ∨ News w w' b → F b ∨ News w0 w' b := fun b hb => by
    rcases hb with hb | hb
    · rcases hF b hb with h | h
      · exact .inl h
      · exact .inr ⟨h.1, by have := h.2; omega⟩
    · exact .inr ⟨by have := hb.1; omega, hb.2⟩
  refine ⟨T', M', S', hp, fun b hb => key b ?_, fun b hb => ?_, m0.trans m fun i hi => ?_⟩
  · rcases hb with hb | hb
    · exact (hT b hb).elim (fun h => .inl (.inl h)) .inr
    · exact (hM b hb).elim (fun h => .inl (.inr h)) .inr
  · rcases hS b hb with h | h
    · rcases hZ b h with h | h
      · exact .inl h
      · exact .inr ⟨h.1, by have := h.2; omega⟩
    · exact .inr ⟨by have := h.1; omega, h.2⟩
  · exact (hF i hi).imp id fun h => h.1
theorem mods_old {B : Nat} {F : Nat → Prop} {w0 w w' : World} (h : Below B w0 w) (m : Mods F w w') (hF : ∀ b, F b → B ≤ b) (hB : B ≤ w.heap.size) : Below B w0 w' := Mods.old h m hB fun i _ hi => hF i hi
theorem some_ne {a b : Nat} (h : b < a) : (some (⟨a, 0, none⟩ : Addr)).map (·.block) ≠ some b := by
  intro e
  have e := Option.some.inj e
  simp only at e
  omega
theorem foot {F : Nat → Prop} {n b : Nat} {w w' : World} (h : F b ∨ News w w' b) (hF : ∀ b, F b → n ≤ b) (hn : n ≤ w.heap.size) : n ≤ b := h.elim (hF b) fun h => Nat.le_trans hn h.1
theorem wr_rows (U : List (Wr × Option Addr × Nat)) : (∀ r ∈ U.map wrRow, r.length = 4) ∧ ∀ r ∈ U.map wrRow, ∀ v ∈ r, v.oneCell' = true := by
  constructor
  · intro r hr
    obtain ⟨u, _, rfl⟩ := List.mem_map.1 hr
    rfl
  · intro r hr v hv
    obtain ⟨u, _, rfl⟩ := List.mem_map.1 hr
    simp [wrRow] at hv
    rcases hv with rfl | rfl | rfl | rfl <;> rfl

set_option maxRecDepth 20000 in
set_option maxHeartbeats 16000000 in
theorem walkDiskSwaps (room : Int) (X : Option Addr) (c : Nat) (L0 : List (List Fv)) (a b : AF) (w : World) (hroom : I64 room) (hX : RS w X 5 (L0.map (·.map Fv.val))) (hL : L0.length ≤ 9223372036854775807) (hR : ∀ r ∈ L0, rowOk w actK r) (ha : a.ok w) (hb : b.ok w) :
    Calls Tryd.prog 9 #[.int .i64 room, .slice X L0.length c, .agg a.cells.toArray, .agg b.cells.toArray] w fun e w' => e = .returned (.bool true) ∧ Below w.heap.size w w' := by
  obtain ⟨ka, na, xa, Ya, ya, da, ma⟩ := a
  obtain ⟨kb, nb, xb, Yb, yb, db, mb⟩ := b
  unfold AF.cells
  simp only
  obtain ⟨L, hL', hacts⟩ := acts_of hX hR
  rw [← hL'] at hL ⊢
  have hal : Below w.heap.size w (w.alloc (.cells #[.int .i64 ka, .string ⟨na.toArray⟩, .int .i64 xa, .slice Ya da.length ya, .int .u64 (ma : Int)] 26)) := (Below.refl _ _).alloc (Nat.le_refl _) _
  have hxA := Blk.new w #[.int .i64 ka, .string ⟨na.toArray⟩, .int .i64 xa, .slice Ya da.length ya, .int .u64 (ma : Int)] 26
  have hsA : (w.alloc (.cells #[.int .i64 ka, .string ⟨na.toArray⟩, .int .i64 xa, .slice Ya da.length ya, .int .u64 (ma : Int)] 26)).heap.size = w.heap.size + 1 := by simp
  have hbl : Below (w.alloc (.cells #[.int .i64 ka, .string ⟨na.toArray⟩, .int .i64 xa, .slice Ya da.length ya, .int .u64 (ma : Int)] 26)).heap.size (w.alloc (.cells #[.int .i64 ka, .string ⟨na.toArray⟩, .int .i64 xa, .slice Ya da.length ya, .int .u64 (ma : Int)] 26)) ((w.alloc (.cells #[.int .i64 ka, .string ⟨na.toArray⟩, .int .i64 xa, .slice Ya da.length ya, .int .u64 (ma : Int)] 26)).alloc (.cells #[.int .i64 kb, .string ⟨nb.toArray⟩, .int .i64 xb, .slice Yb db.length yb, .int .u64 (mb : Int)] 26)) := (Below.refl _ _).alloc (Nat.le_refl _) _
  have hxB := Blk.new (w.alloc (.cells #[.int .i64 ka, .string ⟨na.toArray⟩, .int .i64 xa, .slice Ya da.length ya, .int .u64 (ma : Int)] 26)) #[.int .i64 kb, .string ⟨nb.toArray⟩, .int .i64 xb, .slice Yb db.length yb, .int .u64 (mb : Int)] 26
  have hB1 := hal.trans (hbl.mono hal.size)
  have hxA := hxA.kept hbl
  rw [hsA] at hxB
  have GR := Lib.hid (lawGrown room X c L _ (hacts.below hB1) hL)
  have HOA := Lib.hid ha
  have HOB := Lib.hid hb
  have HALL := Lib.hid hB1
  obtain ⟨w1, hw1⟩ : ∃ w1, w1 = ((w.alloc (.cells #[.int .i64 ka, .string ⟨na.toArray⟩, .int .i64 xa, .slice Ya da.length ya, .int .u64 (ma : Int)] 26)).alloc (.cells #[.int .i64 kb, .string ⟨nb.toArray⟩, .int .i64 xb, .slice Yb db.length yb, .int .u64 (mb : Int)] 26)) := ⟨_, rfl⟩
  obtain ⟨pa, hpa⟩ : ∃ pa, pa = w.heap.size := ⟨_, rfl⟩
  obtain ⟨pb, hpb⟩ : ∃ pb, pb = w.heap.size + 1 := ⟨_, rfl⟩
  rw [← hw1] at GR HALL hxA hxB
  rw [← hpa] at hxA
  rw [← hpb] at hxB
  have HW1 := Lib.hid hw1
  have HPA := Lib.hid hpa
  have HPB := Lib.hid hpb
  have HXA := Lib.hid hxA
  have HXB := Lib.hid hxB
  clear hX hR hL' hacts ha hb hal hbl hsA hB1 hxA hxB hw1 hpa hpb
  go_enter Tryd.func9, Tryd.ntmps9
  go_wp2_with fail
  rw [← HW1.out, ← HPB.out, ← HPA.out]
  clear HW1 HPA HPB
  have hB1 : Below w.heap.size w w1 := HALL.out
  clear HALL
  refine GR.out.mono ?_
  rintro e w2 ⟨d, g, T, M, S, D, rfl, hp, hn, hgd, hb2⟩
  have HG := Lib.hid hgd
  have hB2 := hB1.trans (hb2.mono hB1.size)
  have HXA2 := Lib.hid (HXA.out.kept hb2)
  have HXB2 := Lib.hid (HXB.out.kept hb2)
  have hs1 := hB1.size
  have hpal := HXA.out.lt
  have hpbl := HXB.out.lt
  have HN2 : Hid (∀ b, T b ∨ M b ∨ S b → News w1 w2 b) := Lib.hid fun b hb => hn b hb
  have HP2 := Lib.hid hp
  have hq2 := hb2.size
  clear GR hp hn hgd hb2 HXA HXB hB1
  go_wp2_with fail
  refine (lawAnswers _).mono ?_
  rintro e w3 ⟨rfl, hb3⟩
  have hB3 := hB2.trans (hb3.mono hB2.size)
  have HP3 := Lib.hid (HP2.out.below hb3)
  have HN3 : Hid (∀ b, T b ∨ M b ∨ S b → News w1 w3 b) := Lib.hid fun b hb => ⟨(HN2.out b hb).1, Nat.lt_of_lt_of_le (HN2.out b hb).2 hb3.size⟩
  have HXA3 := Lib.hid (HXA2.out.kept hb3)
  have hq3 := hb3.size
  have HXB3 := Lib.hid (HXB2.out.kept hb3)
  have AN := Lib.hid lawAnswers
  obtain ⟨A, cc, Lr, B, cu, U, hr⟩ := HP3.out.ri
  have HRR := Lib.hid hr
  have g4 := hr.blk.cell 4 rfl
  have g3 := hr.blk.cell 3 rfl
  have hcnt : D.cnt ≤ 1000000 := Nat.le_trans HG.out.1 (by omega)
  have hul : U.length ≤ 200 := by have := hr.lens.2; have := HG.out.1; unfold DSt.cnt at this; omega
  clear hb3 hB2 HP2 HN2 HXA2 HXB2 hr
  by_cases hdn : D.down = true
  · rw [hdn] at g4
    go_wp2_with fail
    refine (AN.out _).mono ?_
    rintro e w4 ⟨rfl, hb4⟩
    have hB4 := hB3.trans (hb4.mono hB3.size)
    clear hb4 hB3
    go_wp2_with fail
    go_ret
    exact ⟨rfl, hB4⟩
  have hdn' : D.down = false := by simpa using hdn
  rw [hdn'] at g4
  by_cases hfu : 0 < D.fuse
  · generalize D.fuse = fz at *
    go_wp2_with fail
    refine (AN.out _).mono ?_
    rintro e w4 ⟨rfl, hb4⟩
    have hB4 := hB3.trans (hb4.mono hB3.size)
    clear hb4 hB3
    go_wp2_with fail
    go_ret
    exact ⟨rfl, hB4⟩
  have HDNF : Hid (D.down = false ∧ ¬ 0 < D.fuse) := Lib.hid ⟨hdn', hfu⟩
  obtain ⟨fz, hfz⟩ : ∃ fz, fz = D.fuse := ⟨_, rfl⟩
  have hfu' : ¬ 0 < fz := by rw [hfz]; exact hfu
  rw [← hfz] at g3
  clear hfz hfu hdn hdn'
  have x1 := HXA3.out.cell 1 rfl
  have z1 := HXB3.out.cell 1 rfl
  by_cases hnm : na = nb
  · subst hnm
    go_wp2_with fail
    refine (AN.out _).mono ?_
    rintro e w4 ⟨rfl, hb4⟩
    have hB4 := hB3.trans (hb4.mono hB3.size)
    clear hb4 hB3
    go_wp2_with fail
    go_ret
    exact ⟨rfl, hB4⟩
  have hnmB : (na == nb) = false := beq_eq_false_iff_ne.2 hnm
  have HNM := Lib.hid hnm
  clear hnm
  have x0 := HXA3.out.cell 0 rfl
  have x2 := HXA3.out.cell 2 rfl
  have x3 := HXA3.out.cell 3 rfl
  have x4 := HXA3.out.cell 4 rfl
  have SA := Lib.hid (lawSmall ⟨ka, na, xa, Ya, ya, da, ma⟩ w3)
  go_wp2_with fail
  refine SA.out.mono ?_
  rintro e w4 ⟨rfl, hb4⟩
  have hB4 := hB3.trans (hb4.mono hB3.size)
  have HP4 := Lib.hid (HP3.out.below hb4)
  have HN4 : Hid (∀ b, T b ∨ M b ∨ S b → News w1 w4 b) := Lib.hid fun b hb => ⟨(HN3.out b hb).1, Nat.lt_of_lt_of_le (HN3.out b hb).2 hb4.size⟩
  have HXA4 := Lib.hid (HXA3.out.kept hb4)
  have hq4 := hb4.size
  have HXB4 := Lib.hid (HXB3.out.kept hb4)
  have HRR4 := Lib.hid (HRR.out.below hb4)
  clear x0 x1 x2 x3 x4 z1 SA hb4 hB3 HP3 HN3 HXA3 HXB3 HRR g3 g4
  cases hsa : AF.small ⟨ka, na, xa, Ya, ya, da, ma⟩
  · clear hsa
    go_wp2_with fail
    refine (AN.out _).mono ?_
    rintro e w5 ⟨rfl, hb5⟩
    have hB5 := hB4.trans (hb5.mono hB4.size)
    clear hb5 hB4
    go_wp2_with fail
    go_ret
    exact ⟨rfl, hB5⟩
  clear hsa
  have z0 := HXB4.out.cell 0 rfl
  have z1 := HXB4.out.cell 1 rfl
  have z2 := HXB4.out.cell 2 rfl
  have z3 := HXB4.out.cell 3 rfl
  have z4 := HXB4.out.cell 4 rfl
  have SB := Lib.hid (lawSmall ⟨kb, nb, xb, Yb, yb, db, mb⟩ w4)
  go_wp2_with fail
  refine SB.out.mono ?_
  rintro e w5 ⟨rfl, hb5⟩
  have hB5 := hB4.trans (hb5.mono hB4.size)
  have HP5 := Lib.hid (HP4.out.below hb5)
  have HN5 : Hid (∀ b, T b ∨ M b ∨ S b → News w1 w5 b) := Lib.hid fun b hb => ⟨(HN4.out b hb).1, Nat.lt_of_lt_of_le (HN4.out b hb).2 hb5.size⟩
  have HXA5 := Lib.hid (HXA4.out.kept hb5)
  have hq5 := hb5.size
  have HXB5 := Lib.hid (HXB4.out.kept hb5)
  have HRR5 := Lib.hid (HRR4.out.below hb5)
  clear z0 z1 z2 z3 z4 SB hb5 hB4 HP4 HN4 HXA4 HXB4 HRR4
  cases hsb : AF.small ⟨kb, nb, xb, Yb, yb, db, mb⟩
  · clear hsb
    go_wp2_with fail
    refine (AN.out _).mono ?_
    rintro e w6 ⟨rfl, hb6⟩
    have hB6 := hB5.trans (hb6.mono hB5.size)
    clear hb6 hB5
    go_wp2_with fail
    go_ret
    exact ⟨rfl, hB6⟩
  clear hsb
  have x0 := HXA5.out.cell 0 rfl
  have z0 := HXB5.out.cell 0 rfl
  by_cases hkk : (1 ≤ ka ∧ ka ≤ 3) ∧ (1 ≤ kb ∧ kb ≤ 3)
  case neg =>
    by_cases h1 : ka < 1
    · go_wp2_with fail
      refine (AN.out _).mono ?_
      rintro e w6 ⟨rfl, hb6⟩
      have hB6 := hB5.trans (hb6.mono hB5.size)
      clear hb6 hB5
      go_wp2_with fail
      go_ret
      exact ⟨rfl, hB6⟩
    by_cases h2 : 3 < ka
    · go_wp2_with fail
      refine (AN.out _).mono ?_
      rintro e w6 ⟨rfl, hb6⟩
      have hB6 := hB5.trans (hb6.mono hB5.size)
      clear hb6 hB5
      go_wp2_with fail
      go_ret
      exact ⟨rfl, hB6⟩
    by_cases h3 : kb < 1
    · go_wp2_with fail
      refine (AN.out _).mono ?_
      rintro e w6 ⟨rfl, hb6⟩
      have hB6 := hB5.trans (hb6.mono hB5.size)
      clear hb6 hB5
      go_wp2_with fail
      go_ret
      exact ⟨rfl, hB6⟩
    have h4 : 3 < kb := by omega
    go_wp2_with fail
    refine (AN.out _).mono ?_
    rintro e w6 ⟨rfl, hb6⟩
    have hB6 := hB5.trans (hb6.mono hB5.size)
    clear hb6 hB5
    go_wp2_with fail
    go_ret
    exact ⟨rfl, hB6⟩
  have hk1 : ¬ ka < 1 := by omega
  have hk2 : ¬ 3 < ka := by omega
  have hk3 : ¬ kb < 1 := by omega
  have hk4 : ¬ 3 < kb := by omega
  have HKK := Lib.hid hkk
  clear hkk
  have CP := Lib.hid (diskCopyC HP5.out.di hcnt)
  go_wp2_with fail
  refine CP.out.mono ?_
  rintro e w6 ⟨c2, rfl, hcd, hcb⟩
  have hB6 := hB5.trans (hcb.mono hB5.size)
  have HC6 := Lib.hid hcd
  have HP6 := Lib.hid (HP5.out.below hcb)
  have HRR6 := Lib.hid (HRR5.out.below hcb)
  have HXA6 := Lib.hid (HXA5.out.kept hcb)
  have HXB6 := Lib.hid (HXB5.out.kept hcb)
  have hs5 := hB5.size
  have hs6 := hcb.size
  clear CP hcd hcb HP5 HRR5 HXA5 HXB5 x0 z0 hk1 hk2 hk3 hk4 hB5
  obtain ⟨px, hpx⟩ : ∃ px, px = w6.heap.size := ⟨_, rfl⟩
  obtain ⟨py, hpy⟩ : ∃ py, py = w6.heap.size + 1 := ⟨_, rfl⟩
  have ha1 : Below w6.heap.size w6 (w6.alloc (.cells #[.slice none 0 0, .slice none 0 0, .int .i64 0, .int .i64 0, .bool false] 42)) := (Below.refl _ _).alloc (Nat.le_refl _) _
  have hsx : (w6.alloc (.cells #[.slice none 0 0, .slice none 0 0, .int .i64 0, .int .i64 0, .bool false] 42)).heap.size = w6.heap.size + 1 := by simp
  have ha2 : Below (w6.alloc (.cells #[.slice none 0 0, .slice none 0 0, .int .i64 0, .int .i64 0, .bool false] 42)).heap.size (w6.alloc (.cells #[.slice none 0 0, .slice none 0 0, .int .i64 0, .int .i64 0, .bool false] 42)) ((w6.alloc (.cells #[.slice none 0 0, .slice none 0 0, .int .i64 0, .int .i64 0, .bool false] 42)).alloc (.cells #[.slice none 0 0, .slice none 0 0, .int .i64 0, .int .i64 0, .bool false] 42)) := (Below.refl _ _).alloc (Nat.le_refl _) _
  have hbx := (Blk.new w6 #[.slice none 0 0, .slice none 0 0, .int .i64 0, .int .i64 0, .bool false] 42).kept ha2
  have hby := Blk.new (w6.alloc (.cells #[.slice none 0 0, .slice none 0 0, .int .i64 0, .int .i64 0, .bool false] 42)) #[.slice none 0 0, .slice none 0 0, .int .i64 0, .int .i64 0, .bool false] 42
  have hb7 := ha1.trans (ha2.mono (by omega))
  rw [hsx] at hby
  have HB7 := Lib.hid hb7
  have HBX := Lib.hid hbx
  have HBY := Lib.hid hby
  rw [← hpx] at HBX
  rw [← hpy] at HBY
  have HPX := Lib.hid hpx
  have HPY := Lib.hid hpy
  clear ha1 hsx ha2 hbx hby hb7 hpx hpy
  go_upto_region 6 with fail
  rw [← HPY.out, ← HPX.out]
  generalize ((w6.alloc (.cells #[.slice none 0 0, .slice none 0 0, .int .i64 0, .int .i64 0, .bool false] 42)).alloc (.cells #[.slice none 0 0, .slice none 0 0, .int .i64 0, .int .i64 0, .bool false] 42)) = w7 at *
  have hxge : w6.heap.size ≤ px := by rw [HPX.out]; exact Nat.le_refl _
  have hyge : w6.heap.size ≤ py := by rw [HPY.out]; omega
  have hxy : px ≠ py := by rw [HPX.out, HPY.out]; omega
  clear HPX HPY
  obtain ⟨rm, hrm⟩ : ∃ rm, rm = D.room := ⟨_, rfl⟩
  obtain ⟨fz, hfz⟩ : ∃ fz, fz = D.fuse := ⟨_, rfl⟩
  obtain ⟨dn, hdn⟩ : ∃ dn, dn = D.down := ⟨_, rfl⟩
  have HVS := Lib.hid (And.intro hrm (And.intro hfz hdn))
  clear hrm hfz hdn
  refine wp_region_planE_gen (by kernel_rfl) [(0, none), (1, none), (2, none), (3, none), (4, none), (5, none), (6, none), (7, none), (8, none), (9, some [0, 2, 3, 4, 7, 8]), (10, none), (11, some [0, 1, 2, 3, 4, 5, 6, 7, 8, 10])] (by kernel_rfl) (by kernel_rfl) (by decide) ?_
  intro wq hwq
  have hbq : Below w6.heap.size w6 wq := by rw [hwq]; exact HB7.out.drew
  have HBXq : Hid (Blk wq px 42 #[.slice none 0 0, .slice none 0 0, .int .i64 0, .int .i64 0, .bool false]) := Lib.hid (by rw [hwq]; exact HBX.out)
  have HBYq : Hid (Blk wq py 42 #[.slice none 0 0, .slice none 0 0, .int .i64 0, .int .i64 0, .bool false]) := Lib.hid (by rw [hwq]; exact HBY.out)
  clear hwq HBX HBY HB7
  have hbk := (HRR6.out.below hbq).blk
  rw [← HVS.out.1, ← HVS.out.2.1, ← HVS.out.2.2] at hbk
  have g0 := hbk.cell 0 rfl
  have g1 := hbk.cell 1 rfl
  have g2 := hbk.cell 2 rfl
  have g3 := hbk.cell 3 rfl
  have g4 := hbk.cell 4 rfl
  clear hbk
  iterate 4 (refine planE_pure (v := ?_) rfl (by rfl) (fun w' => ?_) ?_; rotate_left; (focus (simp only [List.getElem_toArray, List.getElem_cons_succ, List.getElem_cons_zero]; go_simp; first | with_reducible rfl | (simp (disch := omega) only [if_pos, if_neg, dif_pos, Result.andThen_ok]; try with_reducible rfl) | skip)); try simp only [List.getElem_toArray, List.getElem_cons_succ, List.getElem_cons_zero, Act.put, List.setIfInBounds_toArray, List.set_cons_zero, List.set_cons_succ])
  refine planE_cells (v := ?_) [(⟨g, 0, none⟩, .slice A Lr.length cc), (⟨g, 0 + 1, none⟩, .slice B U.length cu), (⟨g, 0 + 2, none⟩, .int .i64 rm), (⟨g, 0 + 3, none⟩, .int .i64 fz), (⟨g, 0 + 4, none⟩, .bool dn)] (by simp; and_intros <;> assumption) rfl (by rfl) (fun w' hw' => ?_) ?_; rotate_left; (focus (simp only [List.forall_mem_cons, List.not_mem_nil, false_imp_iff, implies_true, and_true] at hw'; simp only [List.getElem_toArray, List.getElem_cons_succ, List.getElem_cons_zero]; go_simp; first | with_reducible rfl | (simp (disch := omega) only [if_pos, if_neg, dif_pos, Result.andThen_ok]; try with_reducible rfl) | skip)); try simp only [List.getElem_toArray, List.getElem_cons_succ, List.getElem_cons_zero, Act.put, List.setIfInBounds_toArray, List.set_cons_zero, List.set_cons_succ]
  iterate 2 (refine planE_pure (v := ?_) rfl (by rfl) (fun w' => ?_) ?_; rotate_left; (focus (simp only [List.getElem_toArray, List.getElem_cons_succ, List.getElem_cons_zero]; go_simp; first | with_reducible rfl | (simp (disch := omega) only [if_pos, if_neg, dif_pos, Result.andThen_ok]; try with_reducible rfl) | skip)); try simp only [List.getElem_toArray, List.getElem_cons_succ, List.getElem_cons_zero, Act.put, List.setIfInBounds_toArray, List.set_cons_zero, List.set_cons_succ])
  refine planE_cells (v := ?_) [(⟨g, 0, none⟩, .slice A Lr.length cc), (⟨g, 0 + 1, none⟩, .slice B U.length cu), (⟨g, 0 + 2, none⟩, .int .i64 rm), (⟨g, 0 + 3, none⟩, .int .i64 fz), (⟨g, 0 + 4, none⟩, .bool dn)] (by simp; and_intros <;> assumption) rfl (by rfl) (fun w' hw' => ?_) ?_; rotate_left; (focus (simp only [List.forall_mem_cons, List.not_mem_nil, false_imp_iff, implies_true, and_true] at hw'; simp only [List.getElem_toArray, List.getElem_cons_succ, List.getElem_cons_zero]; go_simp; first | with_reducible rfl | (simp (disch := omega) only [if_pos, if_neg, dif_pos, Result.andThen_ok]; try with_reducible rfl) | skip)); try simp only [List.getElem_toArray, List.getElem_cons_succ, List.getElem_cons_zero, Act.put, List.setIfInBounds_toArray, List.set_cons_zero, List.set_cons_succ]
  iterate 1 (refine planE_pure (v := ?_) rfl (by rfl) (fun w' => ?_) ?_; rotate_left; (focus (simp only [List.getElem_toArray, List.getElem_cons_succ, List.getElem_cons_zero]; go_simp; first | with_reducible rfl | (simp (disch := omega) only [if_pos, if_neg, dif_pos, Result.andThen_ok]; try with_reducible rfl) | skip)); try simp only [List.getElem_toArray, List.getElem_cons_succ, List.getElem_cons_zero, Act.put, List.setIfInBounds_toArray, List.set_cons_zero, List.set_cons_succ])
  refine planE_eff rfl (by rfl) (fun K hK => ?_)
  refine wp_store_row 42 (.tmp 103) (.tmp 99) (by rfl) px #[.slice A Lr.length cc, .slice B U.length cu, .int .i64 rm, .int .i64 fz, .bool dn] (by rfl) (by rfl) 42 _ HBXq.out rdisk_size rfl (by simp [Value.oneCell']) ?_
  have hx8 := Lib.hid (HBXq.out.setRow #[.slice A Lr.length cc, .slice B U.length cu, .int .i64 rm, .int .i64 fz, .bool dn])
  have hy8 := Lib.hid (HBYq.out.setRow_other #[.slice A Lr.length cc, .slice B U.length cu, .int .i64 rm, .int .i64 fz, .bool dn] (k := px) (Ne.symm hxy))
  have hbq8 : Below w6.heap.size w6 (wq.setRow px #[.slice A Lr.length cc, .slice B U.length cu, .int .i64 rm, .int .i64 fz, .bool dn]) := below_set hbq hxge _
  clear HBXq HBYq g0 g1 g2 g3 g4
  generalize wq.setRow px #[.slice A Lr.length cc, .slice B U.length cu, .int .i64 rm, .int .i64 fz, .bool dn] = w8 at *
  have hbk := (HRR6.out.below hbq8).blk
  rw [← HVS.out.1, ← HVS.out.2.1, ← HVS.out.2.2] at hbk
  have g0 := hbk.cell 0 rfl
  have g1 := hbk.cell 1 rfl
  have g2 := hbk.cell 2 rfl
  have g3 := hbk.cell 3 rfl
  have g4 := hbk.cell 4 rfl
  clear hbk
  refine hK _ _ (by simp [owed, left] <;> (and_intros <;> first | trivial | assumption)) ?_
  clear hK K
  try simp only [List.getElem_toArray, List.getElem_cons_succ, List.getElem_cons_zero, Act.put, List.setIfInBounds_toArray, List.set_cons_zero, List.set_cons_succ]
  iterate 1 (refine planE_pure (v := ?_) rfl (by rfl) (fun w' => ?_) ?_; rotate_left; (focus (simp only [List.getElem_toArray, List.getElem_cons_succ, List.getElem_cons_zero]; go_simp; first | with_reducible rfl | (simp (disch := omega) only [if_pos, if_neg, dif_pos, Result.andThen_ok]; try with_reducible rfl) | skip)); try simp only [List.getElem_toArray, List.getElem_cons_succ, List.getElem_cons_zero, Act.put, List.setIfInBounds_toArray, List.set_cons_zero, List.set_cons_succ])
  refine planE_eff rfl (by rfl) (fun K hK => ?_)
  refine wp_store_row 42 (.tmp 104) (.tmp 102) (by rfl) py #[.slice A Lr.length cc, .slice B U.length cu, .int .i64 rm, .int .i64 fz, .bool dn] (by rfl) (by rfl) 42 _ hy8.out rdisk_size rfl (by simp [Value.oneCell']) ?_
  have hy9 := Lib.hid (hy8.out.setRow #[.slice A Lr.length cc, .slice B U.length cu, .int .i64 rm, .int .i64 fz, .bool dn])
  have hx9 := Lib.hid (hx8.out.setRow_other #[.slice A Lr.length cc, .slice B U.length cu, .int .i64 rm, .int .i64 fz, .bool dn] (k := py) hxy)
  have hbq9 : Below w6.heap.size w6 (w8.setRow py #[.slice A Lr.length cc, .slice B U.length cu, .int .i64 rm, .int .i64 fz, .bool dn]) := below_set hbq8 hyge _
  clear hx8 hy8 g0 g1 g2 g3 g4
  generalize w8.setRow py #[.slice A Lr.length cc, .slice B U.length cu, .int .i64 rm, .int .i64 fz, .bool dn] = w9 at *
  have hbk := (HRR6.out.below hbq9).blk
  rw [← HVS.out.1, ← HVS.out.2.1, ← HVS.out.2.2] at hbk
  have g0 := hbk.cell 0 rfl
  have g1 := hbk.cell 1 rfl
  have g2 := hbk.cell 2 rfl
  have g3 := hbk.cell 3 rfl
  have g4 := hbk.cell 4 rfl
  clear hbk
  refine hK _ _ (by simp [owed, left] <;> (and_intros <;> first | trivial | assumption)) ?_
  clear hK K
  try simp only [List.getElem_toArray, List.getElem_cons_succ, List.getElem_cons_zero, Act.put, List.setIfInBounds_toArray, List.set_cons_zero, List.set_cons_succ]
  refine planE_end ?_
  clear g0 g1 g2 g3 g4 hbq hbq8
  have HB9 := Lib.hid hbq9
  obtain ⟨i0, hi0, hz0, hz1, hz2⟩ := info_parts write_info
  have HEM := Lib.hid (OR.made0 w9 (base := w6.heap.size) 73 4 hbq9.size)
  have hal9 : Below w9.heap.size w9 (w9.alloc (.cells #[] 73)) := (Below.refl _ _).alloc (Nat.le_refl _) _
  have hb9a := hbq9.trans (hal9.mono hbq9.size)
  have hbk := (HRR6.out.below hb9a).blk
  rw [← HVS.out.1, ← HVS.out.2.1, ← HVS.out.2.2] at hbk
  have g1 := hbk.cell 1 rfl
  have HRS9 := Lib.hid ((HRR6.out.below hb9a).uns.row.rs)
  have HX9 := Lib.hid (hx9.out.kept hal9)
  have HY9 := Lib.hid (hy9.out.kept hal9)
  have hxl9 : px < w9.heap.size := hx9.out.lt
  have hyl9 : py < w9.heap.size := hy9.out.lt
  have HB9a := Lib.hid hb9a
  clear hbk hx9 hy9 hal9 hb9a hbq9 HB9
  go_upto_region 8 with (at_builtin; refine wp_appendS _ rfl (.tmp 106) (.tmp 110) 40 73 rfl Tryd.underlying40 hi0 hz0 hz1 hz2 rfl (by decide) w6.heap.size _ B 0 cu [] (U.map wrRow) rfl (by rw [List.length_map]; rfl) HEM.out HRS9.out (wr_rows U).1 (wr_rows U).2 (by simp; omega) (by simp; omega) HB9a.out.size ?_; intro ys A10 c10 w10 hys hy1 hy2 hrow hg10 hA10; have hx10 := HX9.out.grown hg10 (some_ne hxl9); have xf := hx10.free 1; have xc := hx10.cell 1 rfl)
  have HYS : Hid (ys = U.map wrRow) := Lib.hid (by rw [hys.out]; rfl)
  have HYL : Hid (ys.length = U.length) := Lib.hid (by rw [HYS.out, List.length_map])
  rw [HYS.out] at hrow
  rw [HYL.out]
  have hA10g : ∀ b, A10.map (·.block) = some b → w9.heap.size ≤ b := fun b hb => by
    rcases hA10 with h | h
    · rw [h] at hb; simp at hb; omega
    · rw [h] at hb; simp at hb; omega
  have hb10 : Below w6.heap.size w6 w10 := HB9a.out.grown hg10 HB9a.out.size (fun b hb => by simp at hb; have := HB9a.out.size; simp at this; omega)
  have hy10 := HY9.out.grown hg10 (some_ne hyl9)
  have hx11 := hx10.setCell 1 (.slice A10 U.length c10)
  have hy11 := hy10.setCell_other (a := ⟨px, 1, none⟩) (.slice A10 U.length c10) (Ne.symm hxy)
  have hb11 : Below w6.heap.size w6 (w10.setCell ⟨px, 1, none⟩ (.slice A10 U.length c10)) := hb10.setCell (p := ⟨px, 1, none⟩) hxge _
  have hrow11 := hrow.setCell_ne (p := ⟨px, 1, none⟩) (fun e => by have := hA10g px e; omega) (.slice A10 U.length c10)
  have hsz10 : w9.heap.size + 1 ≤ w10.heap.size := by have := hg10.size; simpa using this
  have HX11 := Lib.hid hx11
  have HY11 := Lib.hid hy11
  have HR11 := Lib.hid hrow11
  have HB11 := Lib.hid hb11
  have HA10 := Lib.hid hA10g
  clear hys hy1 hy2 hrow hg10 hA10 hx10 xf xc g1 HX9 HY9 HEM HRS9 HB9a hb10 hy10 hx11 hy11 hb11 hrow11 hA10g HYS HYL
  generalize w10.setCell ⟨px, 1, none⟩ (.slice A10 U.length c10) = w11 at *
  clear ys
  have HEM := Lib.hid (OR.made0 w11 (base := w6.heap.size) 73 4 HB11.out.size)
  have hal11 : Below w11.heap.size w11 (w11.alloc (.cells #[] 73)) := (Below.refl _ _).alloc (Nat.le_refl _) _
  have hb11a := HB11.out.trans (hal11.mono HB11.out.size)
  have hbk := (HRR6.out.below hb11a).blk
  rw [← HVS.out.1, ← HVS.out.2.1, ← HVS.out.2.2] at hbk
  have g1 := hbk.cell 1 rfl
  have HRS11 := Lib.hid ((HRR6.out.below hb11a).uns.row.rs)
  have HX11a := Lib.hid (HX11.out.kept hal11)
  have HY11a := Lib.hid (HY11.out.kept hal11)
  have HR11a := Lib.hid (HR11.out.below hal11)
  have HB11a := Lib.hid hb11a
  have hxl11 : px < w11.heap.size := HX11.out.lt
  have hyl11 : py < w11.heap.size := HY11.out.lt
  have HBL : Hid (∀ b, A10.map (·.block) = some b → b < w11.heap.size) := Lib.hid fun b hb => (HR11.out.blk_lt b hb).2
  clear hbk hal11 hb11a HX11 HY11 HR11 HB11
  go_upto_region 9 with (at_builtin; refine wp_appendS _ rfl (.tmp 115) (.tmp 119) 40 73 rfl Tryd.underlying40 hi0 hz0 hz1 hz2 rfl (by decide) w6.heap.size _ B 0 cu [] (U.map wrRow) rfl (by rw [List.length_map]; rfl) HEM.out HRS11.out (wr_rows U).1 (wr_rows U).2 (by simp; omega) (by simp; omega) HB11a.out.size ?_; intro ys A12 c12 w12 hys hy1 hy2 hrow hg12 hA12; have hy12 := HY11a.out.grown hg12 (some_ne hyl11); have xf := hy12.free 1; have xc := hy12.cell 1 rfl)
  have HYS : Hid (ys = U.map wrRow) := Lib.hid (by rw [hys.out]; rfl)
  have HYL : Hid (ys.length = U.length) := Lib.hid (by rw [HYS.out, List.length_map])
  rw [HYS.out] at hrow
  rw [HYL.out]
  have hA12g : ∀ b, A12.map (·.block) = some b → w11.heap.size ≤ b := fun b hb => by
    rcases hA12 with h | h
    · rw [h] at hb; simp at hb; omega
    · rw [h] at hb; simp at hb; omega
  have hb12 : Below w6.heap.size w6 w12 := HB11a.out.grown hg12 HB11a.out.size (fun b hb => by simp at hb; have := HB11a.out.size; simp at this; omega)
  have hx12 := HX11a.out.grown hg12 (some_ne hxl11)
  have hr12 := HR11a.out.grown_row hg12 (fun b hb e => by simp at hb; have := HBL.out b e; omega)
  have hy13 := hy12.setCell 1 (.slice A12 U.length c12)
  have hx13 := hx12.setCell_other (a := ⟨py, 1, none⟩) (.slice A12 U.length c12) hxy
  have hb13 : Below w6.heap.size w6 (w12.setCell ⟨py, 1, none⟩ (.slice A12 U.length c12)) := hb12.setCell (p := ⟨py, 1, none⟩) hyge _
  have hrow13 := hrow.setCell_ne (p := ⟨py, 1, none⟩) (fun e => by have := hA12g py e; omega) (.slice A12 U.length c12)
  have hr13 := hr12.setCell_ne (p := ⟨py, 1, none⟩) (fun e => by have := HA10.out py e; omega) (.slice A12 U.length c12)
  have HX13 := Lib.hid hx13
  have HY13 := Lib.hid hy13
  have HRX := Lib.hid hr13
  have HRY := Lib.hid hrow13
  have HB13 := Lib.hid hb13
  have HA12 := Lib.hid hA12g
  clear hys hy1 hy2 hrow hg12 hA12 hy12 xf xc g1 HX11a HY11a HEM HRS11 HB11a hb12 hx12 hx13 hy13 hb13 hrow13 hr13 hr12 hA12g HYS HYL HR11a
  generalize w12.setCell ⟨py, 1, none⟩ (.slice A12 U.length c12) = w13 at *
  clear ys
  have HRIX : Hid (RI (fun b => b = px ∨ A10.map (·.block) = some b) (fun b => M b ∨ S b) w13 px D) := Lib.hid (by
    have h := HX13.out
    rw [HVS.out.1, HVS.out.2.1, HVS.out.2.2] at h
    exact HRR6.out.copied HB13.out h hxge HRX.out)
  have HRIY : Hid (RI (fun b => b = py ∨ A12.map (·.block) = some b) (fun b => M b ∨ S b) w13 py D) := Lib.hid (by
    have h := HY13.out
    rw [HVS.out.1, HVS.out.2.1, HVS.out.2.2] at h
    exact HRR6.out.copied HB13.out h hyge HRY.out)
  have HMS : Hid (∀ b, T b ∨ M b ∨ S b → w1.heap.size ≤ b ∧ b < w5.heap.size) := Lib.hid fun b hb => HN5.out b hb
  have HDC := Lib.hid (HC6.out.below HB13.out)
  have HDD := Lib.hid (HP6.out.di.below HB13.out)
  have hB13 := hB6.trans (HB13.out.mono (by omega))
  have hBl : w6.heap.size ≤ w13.heap.size := HB13.out.size
  have hs15 : w1.heap.size ≤ w5.heap.size := by omega
  obtain ⟨F1, hF1⟩ : ∃ F1 : Nat → Prop, F1 = fun b => T b ∨ b = px ∨ A10.map (·.block) = some b := ⟨_, rfl⟩
  obtain ⟨F2, hF2⟩ : ∃ F2 : Nat → Prop, F2 = fun b => News w5 w6 b ∨ b = py ∨ A12.map (·.block) = some b := ⟨_, rfl⟩
  obtain ⟨Z, hZ⟩ : ∃ Z : Nat → Prop, Z = fun b => M b ∨ S b := ⟨_, rfl⟩
  have HD12 : Hid (∀ b, F1 b → ¬ F2 b ∧ ¬ Z b ∧ w1.heap.size ≤ b ∧ b < w13.heap.size) := Lib.hid fun b hb => by
    rw [hF1] at hb
    rw [hF2, hZ]
    have hxl := HX13.out.lt
    have hyl := HY13.out.lt
    rcases hb with hb | rfl | hb
    · have h1 := HMS.out b (.inl hb)
      refine ⟨fun h => ?_, fun h => ?_, h1.1, by omega⟩
      · rcases h with h | rfl | h
        · have := h.1; omega
        · omega
        · have := HA12.out b h; omega
      · have := HP6.out.ap b hb
        rcases h with h | h
        · exact this.1 h
        · exact this.2 h
    · refine ⟨fun h => ?_, fun h => ?_, by omega, hxl⟩
      · rcases h with h | h | h
        · have := h.2; omega
        · exact hxy h
        · have := HA12.out _ h; omega
      · have := (HMS.out b (.inr h)).2; omega
    · have h9 := HA10.out b hb
      refine ⟨fun h => ?_, fun h => ?_, by omega, (HRX.out.blk_lt b hb).2⟩
      · rcases h with h | rfl | h
        · have := h.2; omega
        · omega
        · have := HA12.out b h; have := HBL.out b hb; omega
      · have := (HMS.out b (.inr h)).2; omega
  have HDZ2 : Hid (∀ b, F2 b → ¬ Z b ∧ w1.heap.size ≤ b ∧ b < w13.heap.size) := Lib.hid fun b hb => by
    rw [hF2] at hb
    rw [hZ]
    have hyl := HY13.out.lt
    rcases hb with hb | rfl | hb
    · refine ⟨fun h => ?_, by have := hb.1; omega, by have := hb.2; omega⟩
      have := (HMS.out b (.inr h)).2; have := hb.1; omega
    · refine ⟨fun h => ?_, by omega, hyl⟩
      have := (HMS.out b (.inr h)).2; omega
    · have h9 := HA12.out b hb
      refine ⟨fun h => ?_, by omega, (HRY.out.blk_lt b hb).2⟩
      have := (HMS.out b (.inr h)).2; omega
  have HZB : Hid (∀ b, Z b → w1.heap.size ≤ b ∧ b < w13.heap.size) := Lib.hid fun b hb => by
    rw [hZ] at hb
    have := HMS.out b (.inr hb)
    exact ⟨this.1, by omega⟩
  have HQ1 : Hid (Pair T (fun b => b = px ∨ A10.map (·.block) = some b) (fun b => M b ∨ S b) w13 d D px D) := Lib.hid ⟨HDD.out, HRIX.out, fun b hb => by
    have h1 := HD12.out b (by rw [hF1]; exact .inl hb)
    rw [hZ] at h1
    refine ⟨fun h => ?_, h1.2.1⟩
    have h2 := HMS.out b (.inl hb)
    rcases h with rfl | h
    · omega
    · have := HA10.out b h; omega⟩
  have HQ2 : Hid (Pair (News w5 w6) (fun b => b = py ∨ A12.map (·.block) = some b) (fun b => M b ∨ S b) w13 c2 D py D) := Lib.hid ⟨HDC.out, HRIY.out, fun b hb => by
    have h1 := HDZ2.out b (by rw [hF2]; exact .inl hb)
    rw [hZ] at h1
    refine ⟨fun h => ?_, h1.1⟩
    have h2 := hb.2
    rcases h with rfl | h
    · omega
    · have := HA12.out b h; omega⟩
  have HF1 : Hid (∀ b, T b ∨ (b = px ∨ A10.map (·.block) = some b) → F1 b ∨ News w13 w13 b) := Lib.hid fun b hb => .inl (by rw [hF1]; exact hb)
  have HF2 : Hid (∀ b, News w5 w6 b ∨ (b = py ∨ A12.map (·.block) = some b) → F2 b) := Lib.hid fun b hb => by rw [hF2]; exact hb
  have HZ1 : Hid (∀ b, M b ∨ S b → Z b) := Lib.hid fun b hb => by rw [hZ]; exact hb
  have HXA13 := Lib.hid (HXA6.out.kept HB13.out)
  have HXB13 := Lib.hid (HXB6.out.kept HB13.out)
  have HRR13 := Lib.hid (HRR6.out.below HB13.out)
  have HLA : Hid (0 < da.length → ∀ b, Ya.map (·.block) = some b → b < w1.heap.size) := Lib.hid fun h0 b hb => by have := RB.lt HOA.out.rb h0 b hb; omega
  have HLB : Hid (0 < db.length → ∀ b, Yb.map (·.block) = some b → b < w1.heap.size) := Lib.hid fun h0 b hb => by have := RB.lt HOB.out.rb h0 b hb; omega
  have HRA13 := Lib.hid (HOA.out.rb.below hB13)
  have HRB13 := Lib.hid (HOB.out.rb.below hB13)
  have HRIS0 : Hid (Rising D.sure) := Lib.hid HRR6.out.ris
  have HUL : Hid (U.length = D.unsure.length) := Lib.hid HRR6.out.lens.2
  clear HX13 HY13 HRX HRY HMS HA10 HA12 HBL HDC HDD HRIX HRIY hF1 hF2 hZ hxy hxge hyge HRR6 HP6 HC6 HXA6 HXB6 HVS HB13 hi0 hz0 hz1 hz2 hxl9 hyl9 hsz10
  have x0 := HXA13.out.cell 0 rfl
  have x1 := HXA13.out.cell 1 rfl
  have x2 := HXA13.out.cell 2 rfl
  have x3 := HXA13.out.cell 3 rfl
  have x4 := HXA13.out.cell 4 rfl
  have HF1' : Hid (∀ b, F1 b → w1.heap.size ≤ b) := Lib.hid fun b hb => (HD12.out b hb).2.2.1
  have HF2' : Hid (∀ b, F2 b → w1.heap.size ≤ b) := Lib.hid fun b hb => (HDZ2.out b hb).2.1
  have hs1b : w1.heap.size ≤ w13.heap.size := by omega
  have AC1 := Lib.hid (lawAct ka na xa da Ya ya ma HQ1.out HRA13.out (fun h0 b hb => ⟨fun hT => Nat.not_lt_of_le (foot (HF1.out b (.inl hT)) HF1'.out hs1b) (HLA.out h0 b hb), fun hT => Nat.not_lt_of_le (foot (HF1.out b (.inr hT)) HF1'.out hs1b) (HLA.out h0 b hb)⟩) hcnt hcnt HOA.out.name HOA.out.n HOA.out.len HOA.out.mask)
  go_wp2_with fail
  refine AC1.out.mono ?_
  rintro e w14 ⟨bb, rfl, hbb, hp14⟩
  rw [hbb.out rfl]
  obtain ⟨T14, M14, S14, hq14, hF14, hZ14, hm14⟩ := hp14.two (F := F1) (Z := Z) (w0 := w13) HF1.out (fun b hb => .inl (HZ1.out b hb)) (Mods.refl _ _)
  obtain ⟨DA, hDA⟩ : ∃ DA, DA = actD D ka na xa da ma := ⟨_, rfl⟩
  have HGA : Hid (DA.good 201) := Lib.hid (by rw [hDA]; exact HG.out.act ka na xa da ma)
  rw [← hDA] at hq14
  have HDA := Lib.hid hDA
  have HQ14 := Lib.hid hq14
  have HF14 := Lib.hid hF14
  have HZ14 := Lib.hid hZ14
  have HM14 := Lib.hid hm14
  clear AC1 hp14 hbb hq14 hF14 hZ14 hm14 hDA x0 x1 x2 x3 x4 HF1 HQ1
  have HXB14 := Lib.hid (HXB13.out.mods HM14.out fun h => by have := HF1'.out _ h; omega)
  have x0 := HXB14.out.cell 0 rfl
  have x1 := HXB14.out.cell 1 rfl
  have x2 := HXB14.out.cell 2 rfl
  have x3 := HXB14.out.cell 3 rfl
  have x4 := HXB14.out.cell 4 rfl
  have hcA : DA.cnt ≤ 1000000 := Nat.le_trans HGA.out.1 (by omega)
  have AC2 := Lib.hid (lawAct kb nb xb db Yb yb mb HQ14.out (HRB13.out.mods HM14.out fun h0 b hb h => by have := HLB.out h0 b hb; have := HF1'.out b h; omega) (fun h0 b hb => ⟨fun hT => Nat.not_lt_of_le (foot (HF14.out b (.inl hT)) HF1'.out hs1b) (HLB.out h0 b hb), fun hT => Nat.not_lt_of_le (foot (HF14.out b (.inr hT)) HF1'.out hs1b) (HLB.out h0 b hb)⟩) hcA hcA HOB.out.name HOB.out.n HOB.out.len HOB.out.mask)
  go_wp2_with fail
  refine AC2.out.mono ?_
  rintro e w15 ⟨bb, rfl, hbb, hp15⟩
  rw [hbb.out rfl]
  obtain ⟨T15, M15, S15, hq15, hF15, hZ15, hm15⟩ := hp15.two (F := F1) (Z := Z) (w0 := w13) HF14.out HZ14.out HM14.out
  obtain ⟨D1, hD1⟩ : ∃ D1, D1 = actD DA kb nb xb db mb := ⟨_, rfl⟩
  have HG1 : Hid (D1.good 202) := Lib.hid (by rw [hD1]; exact HGA.out.act kb nb xb db mb)
  rw [← hD1] at hq15
  rw [HDA.out] at hD1
  have HD1 := Lib.hid hD1
  have HQ15 := Lib.hid hq15
  have HF15 := Lib.hid hF15
  have HZ15 := Lib.hid hZ15
  have HM15 := Lib.hid hm15
  clear AC2 hp15 hbb hq15 hF15 hZ15 hm15 hD1 x0 x1 x2 x3 x4 HF14 HZ14 HM14 HQ14 HXB14 HDA HGA hcA DA
  have HXA15 := Lib.hid (HXA13.out.mods HM15.out fun h => by have := HF1'.out _ h; omega)
  have HXB15 := Lib.hid (HXB13.out.mods HM15.out fun h => by have := HF1'.out _ h; omega)
  have HRA15 := Lib.hid (HRA13.out.mods HM15.out fun h0 b hb h => by have := HLA.out h0 b hb; have := HF1'.out b h; omega)
  have HRB15 := Lib.hid (HRB13.out.mods HM15.out fun h0 b hb h => by have := HLB.out h0 b hb; have := HF1'.out b h; omega)
  have HQ2' := Lib.hid (HQ2.out.mods HM15.out fun b hb h => by
    have h1 := HD12.out b h
    rcases hb with hb | hb | hb
    · exact h1.1 (HF2.out b (.inl hb))
    · exact h1.1 (HF2.out b (.inr hb))
    · exact h1.2.1 (HZ1.out b hb))
  have hs15b : w13.heap.size ≤ w15.heap.size := HM15.out.size
  have x0 := HXB15.out.cell 0 rfl
  have x1 := HXB15.out.cell 1 rfl
  have x2 := HXB15.out.cell 2 rfl
  have x3 := HXB15.out.cell 3 rfl
  have x4 := HXB15.out.cell 4 rfl
  have AC3 := Lib.hid (lawAct kb nb xb db Yb yb mb HQ2'.out HRB15.out (fun h0 b hb => ⟨fun hT => by have := HLB.out h0 b hb; have := HF2'.out b (HF2.out b (.inl hT)); omega, fun hT => by have := HLB.out h0 b hb; have := HF2'.out b (HF2.out b (.inr hT)); omega⟩) hcnt hcnt HOB.out.name HOB.out.n HOB.out.len HOB.out.mask)
  go_wp2_with fail
  refine AC3.out.mono ?_
  rintro e w16 ⟨bb, rfl, hbb, hp16⟩
  rw [hbb.out rfl]
  obtain ⟨T16, M16, S16, hq16, hF16, hZ16, hm16⟩ := hp16.two (F := F2) (Z := Z) (w0 := w15) (fun b hb => .inl (HF2.out b hb)) (fun b hb => .inl (HZ1.out b hb)) (Mods.refl _ _)
  obtain ⟨DB, hDB⟩ : ∃ DB, DB = actD D kb nb xb db mb := ⟨_, rfl⟩
  have HGB : Hid (DB.good 201) := Lib.hid (by rw [hDB]; exact HG.out.act kb nb xb db mb)
  rw [← hDB] at hq16
  have HDB := Lib.hid hDB
  have HQ16 := Lib.hid hq16
  have HF16 := Lib.hid hF16
  have HZ16 := Lib.hid hZ16
  have HM16 := Lib.hid hm16
  clear AC3 hp16 hbb hq16 hF16 hZ16 hm16 hDB x0 x1 x2 x3 x4 HQ2 HQ2'
  have HXA16 := Lib.hid (HXA15.out.mods HM16.out fun h => by have := HF2'.out _ h; omega)
  have x0 := HXA16.out.cell 0 rfl
  have x1 := HXA16.out.cell 1 rfl
  have x2 := HXA16.out.cell 2 rfl
  have x3 := HXA16.out.cell 3 rfl
  have x4 := HXA16.out.cell 4 rfl
  have hcB : DB.cnt ≤ 1000000 := Nat.le_trans HGB.out.1 (by omega)
  have AC4 := Lib.hid (lawAct ka na xa da Ya ya ma HQ16.out (HRA15.out.mods HM16.out fun h0 b hb h => by have := HLA.out h0 b hb; have := HF2'.out b h; omega) (fun h0 b hb => ⟨fun hT => Nat.not_lt_of_le (foot (HF16.out b (.inl hT)) HF2'.out (Nat.le_trans hs1b hs15b)) (HLA.out h0 b hb), fun hT => Nat.not_lt_of_le (foot (HF16.out b (.inr hT)) HF2'.out (Nat.le_trans hs1b hs15b)) (HLA.out h0 b hb)⟩) hcB hcB HOA.out.name HOA.out.n HOA.out.len HOA.out.mask)
  go_wp2_with fail
  refine AC4.out.mono ?_
  rintro e w17 ⟨bb, rfl, hbb, hp17⟩
  rw [hbb.out rfl]
  obtain ⟨T17, M17, S17, hq17, hF17, hZ17, hm17⟩ := hp17.two (F := F2) (Z := Z) (w0 := w15) HF16.out HZ16.out HM16.out
  obtain ⟨D2, hD2⟩ : ∃ D2, D2 = actD DB ka na xa da ma := ⟨_, rfl⟩
  have HG2 : Hid (D2.good 202) := Lib.hid (by rw [hD2]; exact HGB.out.act ka na xa da ma)
  rw [← hD2] at hq17
  rw [HDB.out] at hD2
  have HD2 := Lib.hid hD2
  have HQ17 := Lib.hid hq17
  have HF17 := Lib.hid hF17
  have HM17 := Lib.hid hm17
  have hs17 : w15.heap.size ≤ w17.heap.size := hm17.size
  have HP17 := Lib.hid (HQ15.out.mods HM17.out fun b hb h => by
    have h1 := HDZ2.out b h
    rcases hb with hb | hb | hb
    · rcases HF15.out b (.inl hb) with h2 | h2
      · exact (HD12.out b h2).1 h
      · have := h2.1; omega
    · rcases HF15.out b (.inr hb) with h2 | h2
      · exact (HD12.out b h2).1 h
      · have := h2.1; omega
    · rcases HZ15.out b hb with h2 | h2
      · exact h1.1 h2
      · have := h2.1; omega)
  have HRR17 := Lib.hid ((HRR13.out.mods HM15.out fun b _ hb h => (HD12.out b h).2.1 (HZ1.out b hb)).mods HM17.out fun b _ hb h => (HDZ2.out b h).1 (HZ1.out b hb))
  have hB17 : Below w.heap.size w w17 := mods_old (mods_old hB13 HM15.out (fun b hb => by have := HF1'.out b hb; omega) (by omega)) HM17.out (fun b hb => by have := HF2'.out b hb; omega) (by omega)
  have HFF : Hid (D1.unsure.length = D.unsure.length + 2 → D2.unsure.length = D.unsure.length + 2 → D1.files = D2.files) := Lib.hid fun h1 h2 => by
    rw [HD1.out] at h1 ⊢
    rw [HD2.out] at h2 ⊢
    exact act_swap HRIS0.out HKK.out.1 HKK.out.2 HNM.out _ _ _ _ _ _ h1 h2
  have HTT : Hid (∀ b, T15 b → ¬ T17 b) := Lib.hid fun b hb h => by
    rcases HF15.out b (.inl hb) with h1 | h1 <;> rcases HF17.out b (.inl h) with h2 | h2
    · exact (HD12.out b h1).1 h2
    · have := (HD12.out b h1).2.2.2; have := h2.1; omega
    · have := (HDZ2.out b h2).2.2; have := h1.1; omega
    · have := h1.2; have := h2.1; omega
  have HT15 : Hid (∀ b, T15 b → w.heap.size ≤ b) := Lib.hid fun b hb => by
    rcases HF15.out b (.inl hb) with h1 | h1
    · have := HF1'.out b h1; omega
    · have := h1.1; omega
  have HT17 : Hid (∀ b, T17 b → w.heap.size ≤ b) := Lib.hid fun b hb => by
    rcases HF17.out b (.inl hb) with h1 | h1
    · have := HF2'.out b h1; omega
    · have := h1.1; omega
  clear AC4 hp17 hbb hq17 hF17 hZ17 hm17 hD2 x0 x1 x2 x3 x4 HF16 HZ16 HM16 HQ16 HXA16 HDB HGB hcB DB HM15 HM17 HQ15 HF15 HZ15 HF17 HD1 HD2 HRR13 hB13 HF1' HF2' HD12 HDZ2 HZB HZ1 HF2 HRA15 HRB15 HRA13 HRB13 HXA15 HXB15 HXA13 HXB13 HLA HLB HOA HOB HKK HNM HRIS0 HG HDNF hs15b
  obtain ⟨A1, c1, L1, B1, cu1, U1, hr1⟩ := HP17.out.ri
  obtain ⟨A2, c2', L2, B2, cu2, U2, hr2⟩ := HQ17.out.ri
  have HU1 : Hid (U1.length = D1.unsure.length) := Lib.hid hr1.lens.2
  have HU2 : Hid (U2.length = D2.unsure.length) := Lib.hid hr2.lens.2
  have h1k := hr1.blk
  have h2k := hr2.blk
  have hgk := HRR17.out.blk
  have HK1 := Lib.hid h1k
  have HK2 := Lib.hid h2k
  have HKg := Lib.hid hgk
  generalize U1.length = lx at *
  generalize U2.length = ly at *
  generalize U.length = lg at *
  have hw1 : IntKind.i64.wrap ((lg : Int) + 2) = (lg : Int) + 2 := IntWalk.i64_in _ (by omega)
  clear hr1 hr2 h1k h2k hgk HRR17
  by_cases hx2 : lx = lg + 2
  case neg =>
    have hxe : ((lx : Int) != (lg : Int) + 2) = true := by rw [bne_iff_ne]; omega
    go_wp2_with fail
    refine wp_region_planE_gen (by kernel_rfl) [(0, none), (1, none), (2, none), (3, none), (4, none), (5, none), (6, none), (7, none), (8, none), (9, none), (10, none), (11, none), (12, none), (13, none), (14, none), (15, none), (16, none), (17, none), (18, none), (19, none), (20, none), (21, none), (22, none), (23, none), (24, none), (25, none)] (by kernel_rfl) (by kernel_rfl) (by decide) ?_
    intro wq hwq
    have hbq : Below w17.heap.size w17 wq := by rw [hwq]; exact (Below.refl _ _).drew
    have hBq := hB17.trans (hbq.mono hB17.size)
    have e1 := (HK1.out.kept hbq).cell 1 rfl
    have e2 := (HK2.out.kept hbq).cell 1 rfl
    have eg := (HKg.out.kept hbq).cell 1 rfl
    clear hwq
    iterate 3 (refine planE_pure (v := ?_) rfl (by rfl) (fun w' => ?_) ?_; rotate_left; (focus (simp only [List.getElem_toArray, List.getElem_cons_succ, List.getElem_cons_zero]; go_simp; first | with_reducible rfl | (simp (disch := omega) only [if_pos, if_neg, dif_pos, Result.andThen_ok]; try with_reducible rfl) | skip)); try simp only [List.getElem_toArray, List.getElem_cons_succ, List.getElem_cons_zero, Act.put, List.setIfInBounds_toArray, List.set_cons_zero, List.set_cons_succ])
    refine planE_cells (v := ?_) [(⟨px, 1, none⟩, .slice B1 lx cu1)] (by simp; and_intros <;> assumption) rfl (by rfl) (fun w' hw' => ?_) ?_; rotate_left; (focus (simp only [List.forall_mem_cons, List.not_mem_nil, false_imp_iff, implies_true, and_true] at hw'; simp only [List.getElem_toArray, List.getElem_cons_succ, List.getElem_cons_zero]; go_simp; first | with_reducible rfl | (simp (disch := omega) only [if_pos, if_neg, dif_pos, Result.andThen_ok]; try with_reducible rfl) | skip)); try simp only [List.getElem_toArray, List.getElem_cons_succ, List.getElem_cons_zero, Act.put, List.setIfInBounds_toArray, List.set_cons_zero, List.set_cons_succ]
    iterate 4 (refine planE_pure (v := ?_) rfl (by rfl) (fun w' => ?_) ?_; rotate_left; (focus (simp only [List.getElem_toArray, List.getElem_cons_succ, List.getElem_cons_zero]; go_simp; first | with_reducible rfl | (simp (disch := omega) only [if_pos, if_neg, dif_pos, Result.andThen_ok]; try with_reducible rfl) | skip)); try simp only [List.getElem_toArray, List.getElem_cons_succ, List.getElem_cons_zero, Act.put, List.setIfInBounds_toArray, List.set_cons_zero, List.set_cons_succ])
    refine planE_cells (v := ?_) [(⟨g, 1, none⟩, .slice B lg cu)] (by simp; and_intros <;> assumption) rfl (by rfl) (fun w' hw' => ?_) ?_; rotate_left; (focus (simp only [List.forall_mem_cons, List.not_mem_nil, false_imp_iff, implies_true, and_true] at hw'; simp only [List.getElem_toArray, List.getElem_cons_succ, List.getElem_cons_zero]; go_simp; first | with_reducible rfl | (simp (disch := omega) only [if_pos, if_neg, dif_pos, Result.andThen_ok]; try with_reducible rfl) | skip)); try simp only [List.getElem_toArray, List.getElem_cons_succ, List.getElem_cons_zero, Act.put, List.setIfInBounds_toArray, List.set_cons_zero, List.set_cons_succ]
    iterate 4 (refine planE_pure (v := ?_) rfl (by rfl) (fun w' => ?_) ?_; rotate_left; (focus (simp only [List.getElem_toArray, List.getElem_cons_succ, List.getElem_cons_zero]; go_simp; first | with_reducible rfl | (simp (disch := omega) only [if_pos, if_neg, dif_pos, Result.andThen_ok]; try with_reducible rfl) | skip)); try simp only [List.getElem_toArray, List.getElem_cons_succ, List.getElem_cons_zero, Act.put, List.setIfInBounds_toArray, List.set_cons_zero, List.set_cons_succ])
    refine planE_skip rfl (by rfl) ?_
    try simp only [List.getElem_toArray, List.getElem_cons_succ, List.getElem_cons_zero, Act.put, List.setIfInBounds_toArray, List.set_cons_zero, List.set_cons_succ]
    refine planE_skip rfl (by rfl) ?_
    try simp only [List.getElem_toArray, List.getElem_cons_succ, List.getElem_cons_zero, Act.put, List.setIfInBounds_toArray, List.set_cons_zero, List.set_cons_succ]
    refine planE_skip rfl (by rfl) ?_
    try simp only [List.getElem_toArray, List.getElem_cons_succ, List.getElem_cons_zero, Act.put, List.setIfInBounds_toArray, List.set_cons_zero, List.set_cons_succ]
    refine planE_skip rfl (by rfl) ?_
    try simp only [List.getElem_toArray, List.getElem_cons_succ, List.getElem_cons_zero, Act.put, List.setIfInBounds_toArray, List.set_cons_zero, List.set_cons_succ]
    refine planE_skip rfl (by rfl) ?_
    try simp only [List.getElem_toArray, List.getElem_cons_succ, List.getElem_cons_zero, Act.put, List.setIfInBounds_toArray, List.set_cons_zero, List.set_cons_succ]
    refine planE_skip rfl (by rfl) ?_
    try simp only [List.getElem_toArray, List.getElem_cons_succ, List.getElem_cons_zero, Act.put, List.setIfInBounds_toArray, List.set_cons_zero, List.set_cons_succ]
    refine planE_skip rfl (by rfl) ?_
    try simp only [List.getElem_toArray, List.getElem_cons_succ, List.getElem_cons_zero, Act.put, List.setIfInBounds_toArray, List.set_cons_zero, List.set_cons_succ]
    refine planE_skip rfl (by rfl) ?_
    try simp only [List.getElem_toArray, List.getElem_cons_succ, List.getElem_cons_zero, Act.put, List.setIfInBounds_toArray, List.set_cons_zero, List.set_cons_succ]
    refine planE_skip rfl (by rfl) ?_
    try simp only [List.getElem_toArray, List.getElem_cons_succ, List.getElem_cons_zero, Act.put, List.setIfInBounds_toArray, List.set_cons_zero, List.set_cons_succ]
    refine planE_skip rfl (by rfl) ?_
    try simp only [List.getElem_toArray, List.getElem_cons_succ, List.getElem_cons_zero, Act.put, List.setIfInBounds_toArray, List.set_cons_zero, List.set_cons_succ]
    refine planE_skip rfl (by rfl) ?_
    try simp only [List.getElem_toArray, List.getElem_cons_succ, List.getElem_cons_zero, Act.put, List.setIfInBounds_toArray, List.set_cons_zero, List.set_cons_succ]
    refine planE_skip rfl (by rfl) ?_
    try simp only [List.getElem_toArray, List.getElem_cons_succ, List.getElem_cons_zero, Act.put, List.setIfInBounds_toArray, List.set_cons_zero, List.set_cons_succ]
    iterate 1 (refine planE_pure (v := ?_) rfl (by rfl) (fun w' => ?_) ?_; rotate_left; (focus (simp only [List.getElem_toArray, List.getElem_cons_succ, List.getElem_cons_zero]; go_simp; first | with_reducible rfl | (simp (disch := omega) only [if_pos, if_neg, dif_pos, Result.andThen_ok]; try with_reducible rfl) | skip)); try simp only [List.getElem_toArray, List.getElem_cons_succ, List.getElem_cons_zero, Act.put, List.setIfInBounds_toArray, List.set_cons_zero, List.set_cons_succ])
    refine planE_end ?_
    go_wp2_with fail
    go_ret
    exact ⟨rfl, hBq⟩
  have hxe : ((lx : Int) != (lg : Int) + 2) = false := by rw [bne_eq_false_iff_eq]; omega
  by_cases hy2 : ly = lg + 2
  case neg =>
    have hye : ((ly : Int) != (lg : Int) + 2) = true := by rw [bne_iff_ne]; omega
    go_wp2_with fail
    refine wp_region_planE_gen (by kernel_rfl) [(0, none), (1, none), (2, none), (3, none), (4, none), (5, none), (6, none), (7, none), (8, none), (9, none), (10, none), (11, none), (12, none), (13, none), (14, none), (15, none), (16, none), (17, none), (18, none), (19, none), (20, none), (21, none), (22, none), (23, none), (24, none), (25, none)] (by kernel_rfl) (by kernel_rfl) (by decide) ?_
    intro wq hwq
    have hbq : Below w17.heap.size w17 wq := by rw [hwq]; exact (Below.refl _ _).drew
    have hBq := hB17.trans (hbq.mono hB17.size)
    have e1 := (HK1.out.kept hbq).cell 1 rfl
    have e2 := (HK2.out.kept hbq).cell 1 rfl
    have eg := (HKg.out.kept hbq).cell 1 rfl
    clear hwq
    iterate 3 (refine planE_pure (v := ?_) rfl (by rfl) (fun w' => ?_) ?_; rotate_left; (focus (simp only [List.getElem_toArray, List.getElem_cons_succ, List.getElem_cons_zero]; go_simp; first | with_reducible rfl | (simp (disch := omega) only [if_pos, if_neg, dif_pos, Result.andThen_ok]; try with_reducible rfl) | skip)); try simp only [List.getElem_toArray, List.getElem_cons_succ, List.getElem_cons_zero, Act.put, List.setIfInBounds_toArray, List.set_cons_zero, List.set_cons_succ])
    refine planE_cells (v := ?_) [(⟨px, 1, none⟩, .slice B1 lx cu1)] (by simp; and_intros <;> assumption) rfl (by rfl) (fun w' hw' => ?_) ?_; rotate_left; (focus (simp only [List.forall_mem_cons, List.not_mem_nil, false_imp_iff, implies_true, and_true] at hw'; simp only [List.getElem_toArray, List.getElem_cons_succ, List.getElem_cons_zero]; go_simp; first | with_reducible rfl | (simp (disch := omega) only [if_pos, if_neg, dif_pos, Result.andThen_ok]; try with_reducible rfl) | skip)); try simp only [List.getElem_toArray, List.getElem_cons_succ, List.getElem_cons_zero, Act.put, List.setIfInBounds_toArray, List.set_cons_zero, List.set_cons_succ]
    iterate 4 (refine planE_pure (v := ?_) rfl (by rfl) (fun w' => ?_) ?_; rotate_left; (focus (simp only [List.getElem_toArray, List.getElem_cons_succ, List.getElem_cons_zero]; go_simp; first | with_reducible rfl | (simp (disch := omega) only [if_pos, if_neg, dif_pos, Result.andThen_ok]; try with_reducible rfl) | skip)); try simp only [List.getElem_toArray, List.getElem_cons_succ, List.getElem_cons_zero, Act.put, List.setIfInBounds_toArray, List.set_cons_zero, List.set_cons_succ])
    refine planE_cells (v := ?_) [(⟨g, 1, none⟩, .slice B lg cu)] (by simp; and_intros <;> assumption) rfl (by rfl) (fun w' hw' => ?_) ?_; rotate_left; (focus (simp only [List.forall_mem_cons, List.not_mem_nil, false_imp_iff, implies_true, and_true] at hw'; simp only [List.getElem_toArray, List.getElem_cons_succ, List.getElem_cons_zero]; go_simp; first | with_reducible rfl | (simp (disch := omega) only [if_pos, if_neg, dif_pos, Result.andThen_ok]; try with_reducible rfl) | skip)); try simp only [List.getElem_toArray, List.getElem_cons_succ, List.getElem_cons_zero, Act.put, List.setIfInBounds_toArray, List.set_cons_zero, List.set_cons_succ]
    iterate 7 (refine planE_pure (v := ?_) rfl (by rfl) (fun w' => ?_) ?_; rotate_left; (focus (simp only [List.getElem_toArray, List.getElem_cons_succ, List.getElem_cons_zero]; go_simp; first | with_reducible rfl | (simp (disch := omega) only [if_pos, if_neg, dif_pos, Result.andThen_ok]; try with_reducible rfl) | skip)); try simp only [List.getElem_toArray, List.getElem_cons_succ, List.getElem_cons_zero, Act.put, List.setIfInBounds_toArray, List.set_cons_zero, List.set_cons_succ])
    refine planE_cells (v := ?_) [(⟨py, 1, none⟩, .slice B2 ly cu2)] (by simp; and_intros <;> assumption) rfl (by rfl) (fun w' hw' => ?_) ?_; rotate_left; (focus (simp only [List.forall_mem_cons, List.not_mem_nil, false_imp_iff, implies_true, and_true] at hw'; simp only [List.getElem_toArray, List.getElem_cons_succ, List.getElem_cons_zero]; go_simp; first | with_reducible rfl | (simp (disch := omega) only [if_pos, if_neg, dif_pos, Result.andThen_ok]; try with_reducible rfl) | skip)); try simp only [List.getElem_toArray, List.getElem_cons_succ, List.getElem_cons_zero, Act.put, List.setIfInBounds_toArray, List.set_cons_zero, List.set_cons_succ]
    iterate 4 (refine planE_pure (v := ?_) rfl (by rfl) (fun w' => ?_) ?_; rotate_left; (focus (simp only [List.getElem_toArray, List.getElem_cons_succ, List.getElem_cons_zero]; go_simp; first | with_reducible rfl | (simp (disch := omega) only [if_pos, if_neg, dif_pos, Result.andThen_ok]; try with_reducible rfl) | skip)); try simp only [List.getElem_toArray, List.getElem_cons_succ, List.getElem_cons_zero, Act.put, List.setIfInBounds_toArray, List.set_cons_zero, List.set_cons_succ])
    refine planE_cells (v := ?_) [(⟨g, 1, none⟩, .slice B lg cu)] (by simp; and_intros <;> assumption) rfl (by rfl) (fun w' hw' => ?_) ?_; rotate_left; (focus (simp only [List.forall_mem_cons, List.not_mem_nil, false_imp_iff, implies_true, and_true] at hw'; simp only [List.getElem_toArray, List.getElem_cons_succ, List.getElem_cons_zero]; go_simp; first | with_reducible rfl | (simp (disch := omega) only [if_pos, if_neg, dif_pos, Result.andThen_ok]; try with_reducible rfl) | skip)); try simp only [List.getElem_toArray, List.getElem_cons_succ, List.getElem_cons_zero, Act.put, List.setIfInBounds_toArray, List.set_cons_zero, List.set_cons_succ]
    iterate 4 (refine planE_pure (v := ?_) rfl (by rfl) (fun w' => ?_) ?_; rotate_left; (focus (simp only [List.getElem_toArray, List.getElem_cons_succ, List.getElem_cons_zero]; go_simp; first | with_reducible rfl | (simp (disch := omega) only [if_pos, if_neg, dif_pos, Result.andThen_ok]; try with_reducible rfl) | skip)); try simp only [List.getElem_toArray, List.getElem_cons_succ, List.getElem_cons_zero, Act.put, List.setIfInBounds_toArray, List.set_cons_zero, List.set_cons_succ])
    refine planE_end ?_
    go_wp2_with fail
    go_ret
    exact ⟨rfl, hBq⟩
  have hye : ((ly : Int) != (lg : Int) + 2) = false := by rw [bne_eq_false_iff_eq]; omega
  have HFE : Hid (D1.files = D2.files) := Lib.hid (HFF.out (by have := HU1.out; have := HUL.out; omega) (by have := HU2.out; have := HUL.out; omega))
  go_wp2_with fail
  refine wp_region_planE_gen (by kernel_rfl) [(0, none), (1, none), (2, none), (3, none), (4, none), (5, none), (6, none), (7, none), (8, none), (9, none), (10, none), (11, none), (12, none), (13, none), (14, none), (15, none), (16, none), (17, none), (18, none), (19, none), (20, none), (21, none), (22, none), (23, none), (24, none), (25, none)] (by kernel_rfl) (by kernel_rfl) (by decide) ?_
  intro wq hwq
  have hbq : Below w17.heap.size w17 wq := by rw [hwq]; exact (Below.refl _ _).drew
  have hBq := hB17.trans (hbq.mono hB17.size)
  have e1 := (HK1.out.kept hbq).cell 1 rfl
  have e2 := (HK2.out.kept hbq).cell 1 rfl
  have eg := (HKg.out.kept hbq).cell 1 rfl
  clear hwq
  iterate 3 (refine planE_pure (v := ?_) rfl (by rfl) (fun w' => ?_) ?_; rotate_left; (focus (simp only [List.getElem_toArray, List.getElem_cons_succ, List.getElem_cons_zero]; go_simp; first | with_reducible rfl | (simp (disch := omega) only [if_pos, if_neg, dif_pos, Result.andThen_ok]; try with_reducible rfl) | skip)); try simp only [List.getElem_toArray, List.getElem_cons_succ, List.getElem_cons_zero, Act.put, List.setIfInBounds_toArray, List.set_cons_zero, List.set_cons_succ])
  refine planE_cells (v := ?_) [(⟨px, 1, none⟩, .slice B1 lx cu1)] (by simp; and_intros <;> assumption) rfl (by rfl) (fun w' hw' => ?_) ?_; rotate_left; (focus (simp only [List.forall_mem_cons, List.not_mem_nil, false_imp_iff, implies_true, and_true] at hw'; simp only [List.getElem_toArray, List.getElem_cons_succ, List.getElem_cons_zero]; go_simp; first | with_reducible rfl | (simp (disch := omega) only [if_pos, if_neg, dif_pos, Result.andThen_ok]; try with_reducible rfl) | skip)); try simp only [List.getElem_toArray, List.getElem_cons_succ, List.getElem_cons_zero, Act.put, List.setIfInBounds_toArray, List.set_cons_zero, List.set_cons_succ]
  iterate 4 (refine planE_pure (v := ?_) rfl (by rfl) (fun w' => ?_) ?_; rotate_left; (focus (simp only [List.getElem_toArray, List.getElem_cons_succ, List.getElem_cons_zero]; go_simp; first | with_reducible rfl | (simp (disch := omega) only [if_pos, if_neg, dif_pos, Result.andThen_ok]; try with_reducible rfl) | skip)); try simp only [List.getElem_toArray, List.getElem_cons_succ, List.getElem_cons_zero, Act.put, List.setIfInBounds_toArray, List.set_cons_zero, List.set_cons_succ])
  refine planE_cells (v := ?_) [(⟨g, 1, none⟩, .slice B lg cu)] (by simp; and_intros <;> assumption) rfl (by rfl) (fun w' hw' => ?_) ?_; rotate_left; (focus (simp only [List.forall_mem_cons, List.not_mem_nil, false_imp_iff, implies_true, and_true] at hw'; simp only [List.getElem_toArray, List.getElem_cons_succ, List.getElem_cons_zero]; go_simp; first | with_reducible rfl | (simp (disch := omega) only [if_pos, if_neg, dif_pos, Result.andThen_ok]; try with_reducible rfl) | skip)); try simp only [List.getElem_toArray, List.getElem_cons_succ, List.getElem_cons_zero, Act.put, List.setIfInBounds_toArray, List.set_cons_zero, List.set_cons_succ]
  iterate 7 (refine planE_pure (v := ?_) rfl (by rfl) (fun w' => ?_) ?_; rotate_left; (focus (simp only [List.getElem_toArray, List.getElem_cons_succ, List.getElem_cons_zero]; go_simp; first | with_reducible rfl | (simp (disch := omega) only [if_pos, if_neg, dif_pos, Result.andThen_ok]; try with_reducible rfl) | skip)); try simp only [List.getElem_toArray, List.getElem_cons_succ, List.getElem_cons_zero, Act.put, List.setIfInBounds_toArray, List.set_cons_zero, List.set_cons_succ])
  refine planE_cells (v := ?_) [(⟨py, 1, none⟩, .slice B2 ly cu2)] (by simp; and_intros <;> assumption) rfl (by rfl) (fun w' hw' => ?_) ?_; rotate_left; (focus (simp only [List.forall_mem_cons, List.not_mem_nil, false_imp_iff, implies_true, and_true] at hw'; simp only [List.getElem_toArray, List.getElem_cons_succ, List.getElem_cons_zero]; go_simp; first | with_reducible rfl | (simp (disch := omega) only [if_pos, if_neg, dif_pos, Result.andThen_ok]; try with_reducible rfl) | skip)); try simp only [List.getElem_toArray, List.getElem_cons_succ, List.getElem_cons_zero, Act.put, List.setIfInBounds_toArray, List.set_cons_zero, List.set_cons_succ]
  iterate 4 (refine planE_pure (v := ?_) rfl (by rfl) (fun w' => ?_) ?_; rotate_left; (focus (simp only [List.getElem_toArray, List.getElem_cons_succ, List.getElem_cons_zero]; go_simp; first | with_reducible rfl | (simp (disch := omega) only [if_pos, if_neg, dif_pos, Result.andThen_ok]; try with_reducible rfl) | skip)); try simp only [List.getElem_toArray, List.getElem_cons_succ, List.getElem_cons_zero, Act.put, List.setIfInBounds_toArray, List.set_cons_zero, List.set_cons_succ])
  refine planE_cells (v := ?_) [(⟨g, 1, none⟩, .slice B lg cu)] (by simp; and_intros <;> assumption) rfl (by rfl) (fun w' hw' => ?_) ?_; rotate_left; (focus (simp only [List.forall_mem_cons, List.not_mem_nil, false_imp_iff, implies_true, and_true] at hw'; simp only [List.getElem_toArray, List.getElem_cons_succ, List.getElem_cons_zero]; go_simp; first | with_reducible rfl | (simp (disch := omega) only [if_pos, if_neg, dif_pos, Result.andThen_ok]; try with_reducible rfl) | skip)); try simp only [List.getElem_toArray, List.getElem_cons_succ, List.getElem_cons_zero, Act.put, List.setIfInBounds_toArray, List.set_cons_zero, List.set_cons_succ]
  iterate 4 (refine planE_pure (v := ?_) rfl (by rfl) (fun w' => ?_) ?_; rotate_left; (focus (simp only [List.getElem_toArray, List.getElem_cons_succ, List.getElem_cons_zero]; go_simp; first | with_reducible rfl | (simp (disch := omega) only [if_pos, if_neg, dif_pos, Result.andThen_ok]; try with_reducible rfl) | skip)); try simp only [List.getElem_toArray, List.getElem_cons_succ, List.getElem_cons_zero, Act.put, List.setIfInBounds_toArray, List.set_cons_zero, List.set_cons_succ])
  refine planE_end ?_
  obtain ⟨w18, hw18⟩ : ∃ w18, w18 = wq := ⟨_, rfl⟩
  rw [← hw18] at hbq hBq ⊢
  clear hw18 e1 e2 eg hw1 hxe hye hx2 hy2 HFF HU1 HU2 HUL HK1 HK2 HKg hB17
  have hc1 : D1.cnt ≤ 1000000 := Nat.le_trans HG1.out.1 (by omega)
  have hc2 : D2.cnt ≤ 1000000 := Nat.le_trans HG2.out.1 (by omega)
  have HP18 := Lib.hid (HP17.out.below hbq)
  have HQ18 := Lib.hid (HQ17.out.below hbq)
  have AK1 := Lib.hid (lawAlike HP18.out hc1 HG1.out.2)
  clear HP17 HQ17 hbq
  go_wp2_with fail
  refine AK1.out.mono ?_
  rintro e w19 ⟨rfl, hb19⟩
  have hB19 := hBq.trans (hb19.mono hBq.size)
  have HP19 := Lib.hid (HP18.out.below hb19)
  have HQ19 := Lib.hid (HQ18.out.below hb19)
  have AK2 := Lib.hid (lawAlike HQ19.out hc2 HG2.out.2)
  clear AK1 hb19 hBq HP18 HQ18
  go_wp2_with fail
  refine AK2.out.mono ?_
  rintro e w20 ⟨rfl, hb20⟩
  have hB20 := hB19.trans (hb20.mono hB19.size)
  have HDI1 := Lib.hid (HP19.out.di.below hb20)
  have HDI2 := Lib.hid (HQ19.out.di.below hb20)
  clear AK2 hb20 hB19 HP19 HQ19
  have FA1 := Lib.hid (diskFallC 18446744073709551615 (-1) HDI1.out hc1 (by decide) (by decide))
  rw [fall_all] at FA1
  rw [show ((18446744073709551615 : Nat) : Int) = 18446744073709551615 from rfl] at FA1
  go_wp2_with fail
  refine FA1.out.mono ?_
  rintro e w21 ⟨rfl, hdi1, hm1⟩
  have hdi2 := HDI2.out.mods hm1 fun b _ hb h => HTT.out b h hb
  have hB21 : Below w.heap.size w w21 := Mods.old hB20 hm1 hB20.size fun i _ hi => HT15.out i hi
  have HDJ1 := Lib.hid hdi1
  have HDJ2 := Lib.hid hdi2
  have hs21 := hm1.size
  have FA2 := Lib.hid (diskFallC 18446744073709551615 (-1) HDJ2.out hc2 (by decide) (by decide))
  rw [fall_all] at FA2
  rw [show ((18446744073709551615 : Nat) : Int) = 18446744073709551615 from rfl] at FA2
  have HBD2 : Hid (∀ b, T17 b → b < w20.heap.size) := Lib.hid fun b hb => HDI2.out.bnd b hb
  clear FA1 hdi1 hdi2 hm1 HDI1 HDI2 hB20
  go_wp2_with fail
  refine FA2.out.mono ?_
  rintro e w22 ⟨rfl, hdi2, hm2⟩
  have hdi1 := HDJ1.out.mods hm2 fun b _ hb h => by
    rcases hb with hb | hb
    · exact HTT.out b hb h
    · have := HBD2.out b h; have := hb.1; omega
  have hB22 : Below w.heap.size w w22 := Mods.old hB21 hm2 hB21.size fun i _ hi => HT17.out i hi
  obtain ⟨V1, HE1⟩ : ∃ V1, Hid (DI V1 w22 d (allSure D1)) := ⟨_, Lib.hid hdi1⟩
  obtain ⟨V2, HE2⟩ : ∃ V2, Hid (DI V2 w22 c2 (allSure D2)) := ⟨_, Lib.hid hdi2⟩
  clear FA2 hdi1 hdi2 hm2 HDJ1 HDJ2 hB21 HBD2 HTT HT15 HT17 hs21
  have HGE1 := Lib.hid HG1.out.allSure
  have HGE2 := Lib.hid HG2.out.allSure
  have HDN1 : Hid ((allSure D1).down = false) := Lib.hid rfl
  have HDN2 : Hid ((allSure D2).down = false) := Lib.hid rfl
  have HFE : Hid ((allSure D2).files = (allSure D1).files) := Lib.hid (by rw [allSure_files, allSure_files, HFE.out])
  clear HG1 HG2
  generalize allSure D1 = E1 at *
  generalize allSure D2 = E2 at *
  have hcE1 : E1.cnt ≤ 1000000 := Nat.le_trans HGE1.out.1 (by omega)
  have hcE2 : E2.cnt ≤ 1000000 := Nat.le_trans HGE2.out.1 (by omega)
  have HRI1 := Lib.hid HE1.out.ris
  have HRI2 := Lib.hid HE2.out.ris
  have hn1 : namesD E1 = E1.files.map Prod.fst := by unfold namesD; rw [HDN1.out]; rfl
  have hn2 : namesD E2 = E1.files.map Prod.fst := by unfold namesD; rw [HDN2.out, HFE.out]; rfl
  have N1 := Lib.hid (diskNamesC HE1.out hcE1 (fun p hp => by have := nameOk_len (HGE1.out.2.files p hp); omega))
  have N2 := Lib.hid (fun w' (hb : Below w22.heap.size w22 w') => diskNamesC (HE2.out.below hb) hcE2 (fun p hp => by have := nameOk_len (HGE2.out.2.files p hp); omega))
  rw [hn1] at N1
  rw [hn2] at N2
  unfold NamesEnd at N1 N2
  have hll : (E1.files.map Prod.fst).length = E1.files.length := by rw [List.length_map]
  rw [hll] at N1 N2
  have hfl : E1.files.length ≤ 1000000 := Nat.le_trans (DSt.files_len E1) hcE1
  clear hn1 hn2 hll hc1 hc2 hcE1 hcE2
  go_wp2_with fail
  refine N1.out.mono ?_
  rintro e w23 ⟨A23, c23, rfl, hv23, hb23⟩
  have N2' := Lib.hid (N2.out w23 hb23)
  clear N1 N2
  go_wp2_with fail
  refine N2'.out.mono ?_
  rintro e w24 ⟨A24, c24, rfl, hv24, hb24⟩
  have HV1 := Lib.hid ((hv23.below hb24).rv)
  have HV2 := Lib.hid hv24.rv
  have hb24' := hb23.trans (hb24.mono hb23.size)
  have HE1' := Lib.hid (HE1.out.below hb24')
  have HE2' := Lib.hid (HE2.out.below hb24')
  have hB24 := hB22.trans (hb24'.mono hB22.size)
  obtain ⟨fl, hflq⟩ : ∃ fl, fl = E1.files.length := ⟨_, rfl⟩
  rw [← hflq] at hfl ⊢
  have HFL := Lib.hid hflq
  clear N2' hv23 hv24 hb23 hb24 hb24' HE1 HE2 hB22 hflq
  go_wp2_with fail
  go_loopw [17] (fun sk wr => ∃ k : Nat, k ≤ fl ∧ sk = .int .i64 (k : Int) ∧ Below w24.heap.size w24 wr) (fun sk _ => fl - (intOf sk).toNat)
  case atStart => exact ⟨0, Nat.zero_le _, rfl, Below.refl _ _⟩
  case round =>
    obtain ⟨k, hk, rfl, hB⟩ := hrel
    by_cases hlt : k < fl
    · have hkf : k < E1.files.length := by rw [← HFL.out]; exact hlt
      have hkm : k < ((E1.files.map Prod.fst).map encStr).length := by simpa using hkf
      obtain ⟨b1, o1, hA1, hb1l, m1⟩ := (HV1.out.below hB).cell hkm
      obtain ⟨b2, o2, hA2, hb2l, m2⟩ := (HV2.out.below hB).cell hkm
      have hmem : E1.files[k] ∈ E1.files := List.getElem_mem hkf
      have hmem2 : E1.files[k] ∈ E2.files := by rw [HFE.out]; exact hmem
      have hel : ((E1.files.map Prod.fst).map encStr)[k] = .string ⟨(E1.files[k]).1.toArray⟩ := by simp [encStr]
      rw [hel] at m1 m2
      obtain ⟨r1, q1⟩ := readBack HDN1.out HGE1.out.2 HRI1.out hmem
      obtain ⟨r2, q2⟩ := readBack HDN2.out HGE2.out.2 HRI2.out hmem2
      have hno := nameOk_len (HGE1.out.2.files _ hmem)
      have RD1 := Lib.hid (diskReadC (E1.files[k]).1 (HE1'.out.below hB) (by omega))
      have RD2 := Lib.hid (fun w' (hb : Below wr.heap.size wr w') => diskReadC (E1.files[k]).1 ((HE2'.out.below hB).below hb) (by omega))
      unfold ReadEnd at RD1 RD2
      rw [r1, q1] at RD1
      rw [r2, q2] at RD2
      generalize (E1.files[k]).1 = nm at *
      generalize (E1.files[k]).2 = dat at *
      subst hA1 hA2
      have HM1 := Lib.hid m1
      have HM2 := Lib.hid m2
      have hlt1 : k + 1 ≤ fl := hlt
      clear hkf hkm hmem hmem2 hel r1 q1 r2 q2 hno m2
      go_wp2_with fail
      refine RD1.out.mono ?_
      rintro e w25 ⟨A25, c25, rfl, ho25, hb25⟩
      have m2 := (hb25.cell (p := ⟨b2, o2 + k, none⟩) hb2l).trans HM2.out
      have RD2' := Lib.hid (RD2.out w25 hb25)
      clear m1 RD1 RD2
      go_wp2_with fail
      refine RD2'.out.mono ?_
      rintro e w26 ⟨A26, c26, rfl, ho26, hb26⟩
      have HC25 := Lib.hid ((ho25.below hb26).rb)
      have HC26 := Lib.hid ho26.rb
      have hbr := hb25.trans (hb26.mono hb25.size)
      have HBr := Lib.hid hbr
      clear m2 RD2' ho25 ho26 hb25 hb26 hbr
      go_wp2_with fail
      refine wp_region_planE_gen (by kernel_rfl) [(0, none), (1, none), (2, none), (3, none), (4, none), (5, none), (6, none), (7, none), (8, none), (9, none), (10, none), (11, none), (12, none), (13, none), (14, none), (15, none), (16, none), (17, none), (18, none), (19, none), (20, none), (21, none), (22, none), (23, none)] (by kernel_rfl) (by kernel_rfl) (by decide) ?_
      intro wq hwq
      have hbq : Below wr.heap.size wr wq := by rw [hwq]; exact HBr.out.drew
      have hbq2 : Below w26.heap.size w26 wq := by rw [hwq]; exact (Below.refl _ _).drew
      have n1 := (hbq.cell (p := ⟨b1, o1 + k, none⟩) hb1l).trans HM1.out
      have n2 := (hbq.cell (p := ⟨b2, o2 + k, none⟩) hb2l).trans HM2.out
      have hBq := hB.trans (hbq.mono hB.size)
      have HQ8 := Lib.hid (HC25.out.below hbq2)
      have HQF := Lib.hid (HC26.out.below hbq2)
      clear hwq hbq hbq2
      iterate 3 (refine planE_pure (v := ?_) rfl (by rfl) (fun w' => ?_) ?_; rotate_left; (focus (simp only [List.getElem_toArray, List.getElem_cons_succ, List.getElem_cons_zero]; go_simp; first | with_reducible rfl | (simp (disch := omega) only [if_pos, if_neg, dif_pos, Result.andThen_ok]; try with_reducible rfl) | skip)); try simp only [List.getElem_toArray, List.getElem_cons_succ, List.getElem_cons_zero, Act.put, List.setIfInBounds_toArray, List.set_cons_zero, List.set_cons_succ])
      refine planE_cells (v := ?_) [(⟨b1, o1 + k, none⟩, .string ⟨nm.toArray⟩)] (by simp; and_intros <;> assumption) rfl (by rfl) (fun w' hw' => ?_) ?_; rotate_left; (focus (simp only [List.forall_mem_cons, List.not_mem_nil, false_imp_iff, implies_true, and_true] at hw'; simp only [List.getElem_toArray, List.getElem_cons_succ, List.getElem_cons_zero]; go_simp; first | with_reducible rfl | (simp (disch := omega) only [if_pos, if_neg, dif_pos, Result.andThen_ok]; try with_reducible rfl) | skip)); try simp only [List.getElem_toArray, List.getElem_cons_succ, List.getElem_cons_zero, Act.put, List.setIfInBounds_toArray, List.set_cons_zero, List.set_cons_succ]
      iterate 3 (refine planE_pure (v := ?_) rfl (by rfl) (fun w' => ?_) ?_; rotate_left; (focus (simp only [List.getElem_toArray, List.getElem_cons_succ, List.getElem_cons_zero]; go_simp; first | with_reducible rfl | (simp (disch := omega) only [if_pos, if_neg, dif_pos, Result.andThen_ok]; try with_reducible rfl) | skip)); try simp only [List.getElem_toArray, List.getElem_cons_succ, List.getElem_cons_zero, Act.put, List.setIfInBounds_toArray, List.set_cons_zero, List.set_cons_succ])
      refine planE_cells (v := ?_) [(⟨b2, o2 + k, none⟩, .string ⟨nm.toArray⟩)] (by simp; and_intros <;> assumption) rfl (by rfl) (fun w' hw' => ?_) ?_; rotate_left; (focus (simp only [List.forall_mem_cons, List.not_mem_nil, false_imp_iff, implies_true, and_true] at hw'; simp only [List.getElem_toArray, List.getElem_cons_succ, List.getElem_cons_zero]; go_simp; first | with_reducible rfl | (simp (disch := omega) only [if_pos, if_neg, dif_pos, Result.andThen_ok]; try with_reducible rfl) | skip)); try simp only [List.getElem_toArray, List.getElem_cons_succ, List.getElem_cons_zero, Act.put, List.setIfInBounds_toArray, List.set_cons_zero, List.set_cons_succ]
      iterate 11 (refine planE_pure (v := ?_) rfl (by rfl) (fun w' => ?_) ?_; rotate_left; (focus (simp only [List.getElem_toArray, List.getElem_cons_succ, List.getElem_cons_zero]; go_simp; first | with_reducible rfl | (simp (disch := omega) only [if_pos, if_neg, dif_pos, Result.andThen_ok]; try with_reducible rfl) | skip)); try simp only [List.getElem_toArray, List.getElem_cons_succ, List.getElem_cons_zero, Act.put, List.setIfInBounds_toArray, List.set_cons_zero, List.set_cons_succ])
      refine planE_read (v := ?_) (fun w' => (convert 23 9 (.slice A25 dat.length c25)).run Tryd.prog w' = .ok (.string ⟨dat.toArray⟩) w') rfl (by rfl) (fun w' hw' => ?_) (convB c25 HQ8.out) ?_; rotate_left; (focus (simp only [List.getElem_toArray, List.getElem_cons_succ, List.getElem_cons_zero]; go_simp; first | with_reducible rfl | (simp (disch := omega) only [if_pos, if_neg, dif_pos, Result.andThen_ok]; try with_reducible rfl) | skip)); try simp only [List.getElem_toArray, List.getElem_cons_succ, List.getElem_cons_zero, Act.put, List.setIfInBounds_toArray, List.set_cons_zero, List.set_cons_succ]
      iterate 1 (refine planE_pure (v := ?_) rfl (by rfl) (fun w' => ?_) ?_; rotate_left; (focus (simp only [List.getElem_toArray, List.getElem_cons_succ, List.getElem_cons_zero]; go_simp; first | with_reducible rfl | (simp (disch := omega) only [if_pos, if_neg, dif_pos, Result.andThen_ok]; try with_reducible rfl) | skip)); try simp only [List.getElem_toArray, List.getElem_cons_succ, List.getElem_cons_zero, Act.put, List.setIfInBounds_toArray, List.set_cons_zero, List.set_cons_succ])
      refine planE_read (v := ?_) (fun w' => (convert 23 9 (.slice A26 dat.length c26)).run Tryd.prog w' = .ok (.string ⟨dat.toArray⟩) w') rfl (by rfl) (fun w' hw' => ?_) (convB c26 HQF.out) ?_; rotate_left; (focus (simp only [List.getElem_toArray, List.getElem_cons_succ, List.getElem_cons_zero]; go_simp; first | with_reducible rfl | (simp (disch := omega) only [if_pos, if_neg, dif_pos, Result.andThen_ok]; try with_reducible rfl) | skip)); try simp only [List.getElem_toArray, List.getElem_cons_succ, List.getElem_cons_zero, Act.put, List.setIfInBounds_toArray, List.set_cons_zero, List.set_cons_succ]
      iterate 2 (refine planE_pure (v := ?_) rfl (by rfl) (fun w' => ?_) ?_; rotate_left; (focus (simp only [List.getElem_toArray, List.getElem_cons_succ, List.getElem_cons_zero]; go_simp; first | with_reducible rfl | (simp (disch := omega) only [if_pos, if_neg, dif_pos, Result.andThen_ok]; try with_reducible rfl) | skip)); try simp only [List.getElem_toArray, List.getElem_cons_succ, List.getElem_cons_zero, Act.put, List.setIfInBounds_toArray, List.set_cons_zero, List.set_cons_succ])
      refine planE_end ?_
      clear n1 n2
      go_wp2_with fail
      go_roundw
      case rel => exact ⟨k + 1, hlt1, by go_num, hBq⟩
      case measure => simp [intOf]; omega
    · obtain rfl : k = fl := by omega
      have hBz := hB24.trans (hB.mono hB24.size)
      go_wp2_with fail
      go_ret
      exact ⟨rfl, hBz⟩
theorem walkDiskSwapsR (room : Int) (X : Option Addr) (c : Nat) (L0 : List (List Fv)) (R Q : List Fv) (w : World) (hroom : I64 room) (hX : RS w X 5 (L0.map (·.map Fv.val))) (hL : L0.length ≤ 9223372036854775807) (hR : ∀ r ∈ L0, rowOk w actK r) (hr : rowOk w actK R) (hq : rowOk w actK Q) :
    Calls Tryd.prog 9 #[.int .i64 room, .slice X L0.length c, .agg (R.map Fv.val).toArray, .agg (Q.map Fv.val).toArray] w fun e w' => e = .returned (.bool true) ∧ Below w.heap.size w w' := by
  rw [← (afOf_ok hr).1, ← (afOf_ok hq).1]
  exact walkDiskSwaps room X c L0 (afOf R) (afOf Q) w hroom hX hL hR (afOf_ok hr).2 (afOf_ok hq).2
end Go.Proofs.YthdmnajcphaekaaDoor
