/- Walk of the law's run (SlotActs, SlotFull). -/
import Derived.Test.YtpfamdcdbjaflaaGreatDoorSlotM
import Derived.Test.YtpfamdcdbjaflaaGreatDoorOpApp
import Derived.Deep.CutBlock
import Derived.Deep.DeepCutAuto
import Derived.OwnWalk
namespace Go.Proofs.YtpfamdcdbjaflaaGreatDoor
open Go.RowKit

/-- Where run's loop stands. -/
structure RunAt (w : World) (g k : Nat) (s7 s9 s10 : Value) (wr : World) : Prop where
  ex : ∃ (S : Nat → Prop) (p : Nat) (v : Option (List UInt8)) (D : DSt), s7 = .pointer (some ⟨p, 0, none⟩) ∧ Live w.heap.size S p g [118] v k D wr ∧ VS w.heap.size (fun y => S y ∨ y = p) wr s9 s10 v
  bel : Below w.heap.size w wr
/-- Where a round stands behind its switch. -/
def MidAt (w : World) (g k ab : Nat) (row : Array Value) (s7 s9 s10 s13 s14 s15 : Value) (wm : World) : Prop :=
  Below w.heap.size w wm ∧ Blk wm ab 79 row ∧ ∃ (S : Nat → Prop) (D : DSt) (v : Option (List UInt8)) (nx : List UInt8) (Y : Option Addr) (c : Nat) (tr fa : Bool),
    s13 = .slice Y nx.length c ∧ OB wm w.heap.size Y c nx ∧ (∀ y, Y.map (·.block) = some y → ¬ S y) ∧ s14 = .bool tr ∧ s15 = .bool fa ∧ ¬ S ab ∧ DI S wm g D ∧ D.cnt ≤ 10 ∧ (∀ x, S x → w.heap.size ≤ x) ∧
    ((fa = false ∧ tr = false ∧ ∃ p, s7 = .pointer (some ⟨p, 0, none⟩) ∧ Live w.heap.size S p g [118] v k D wm ∧ VS w.heap.size (fun y => S y ∨ y = p) wm s9 s10 v) ∨
      (fa = true ∧ VS w.heap.size S wm s9 s10 v ∧ ∀ mask torn, ∃ v', (v' = v ∨ (tr = true ∧ v' = some nx)) ∧ Opened [118] (fallD D mask torn) v' k))
section
variable {w wm : World} {S : Nat → Prop} {g p k ab c : Nat} {v : Option (List UInt8)} {D : DSt} {row : Array Value} {s7 s9 s10 : Value} {Y : Option Addr} {nx : List UInt8}
theorem midLive (hb : Below w.heap.size w wm) (hx : Blk wm ab 79 row) (hl : Live w.heap.size S p g [118] v k D wm) (hv : VS w.heap.size (fun y => S y ∨ y = p) wm s9 s10 v) (hs : ¬ S ab) (ho : OB wm w.heap.size Y c nx) (hy : ∀ y, Y.map (·.block) = some y → ¬ S y) :
    MidAt w g k ab row (.pointer (some ⟨p, 0, none⟩)) s9 s10 (.slice Y nx.length c) (.bool false) (.bool false) wm :=
  ⟨hb, hx, S, D, v, nx, Y, c, false, false, rfl, ho, hy, rfl, rfl, hs, hl.di, by have := hl.files.2; omega, hl.sge, .inl ⟨rfl, rfl, p, rfl, hl, hv⟩⟩
theorem midFall (hb : Below w.heap.size w wm) (hx : Blk wm ab 79 row) (hl : Live w.heap.size S p g [118] v k D wm) (hv : VS w.heap.size (fun y => S y ∨ y = p) wm s9 s10 v) (hs : ¬ S ab) (hk : k ≤ 1000) :
    MidAt w g k ab row s7 s9 s10 (.slice none 0 0) (.bool false) (.bool true) wm :=
  ⟨hb, hx, S, D, v, [], none, 0, false, true, rfl, OB.nil _ _, fun y hy => by simp at hy, rfl, rfl, hs, hl.di, by have := hl.files.2; omega, hl.sge, .inr ⟨rfl, hv.set fun y _ h => .inl h, fun mask torn => ⟨v, .inl rfl, hl.fall base_v (by omega) mask torn⟩⟩⟩
theorem midDisk {D' : DSt} {wl : World} (hb : Below w.heap.size w wl) (hx : Blk wl ab 79 row) (hl : Live w.heap.size S p g [118] v k D wl) (hv : VS w.heap.size (fun y => S y ∨ y = p) wl s9 s10 v) (hs : ¬ S ab ∧ ab ≠ p) (hB : w.heap.size ≤ wl.heap.size)
    (hm : Mods S wl wm) (hl' : Live w.heap.size (Sx S wl wm) p g [118] v k D' wm) : MidAt w g k ab row (.pointer (some ⟨p, 0, none⟩)) s9 s10 (.slice none 0 0) (.bool false) (.bool false) wm := by
  refine midLive (Mods.old hb hm hB (fun i _ h => hl.sge i h)) (hx.mods hm hs.1) hl' ?_ (fun h => ?_) (OB.nil _ _) (fun y hy => by simp at hy)
  · exact hv.step (hm.mono fun i _ h => .inl h) (fun y h => h.elim (fun h => h.elim (fun h => .inl (.inl h)) (fun h => .inr h.1)) (fun h => .inl (.inr h)))
  · rcases h with h | h
    · exact hs.1 h
    · have := h.1; have := hx.lt; omega
end
set_option maxRecDepth 20000 in
set_option maxHeartbeats 8000000 in
theorem lawRun (X : Option Addr) (c : Nat) (L : List SAc) (room : Int) (w : World) (h : SActs w X L) (hL : L.length ≤ 9223372036854775807) (hr0 : 0 ≤ room) (hr1 : room ≤ 4194304) (hE : SEnv w.heap.size w) :
    Calls Tryz.prog 18 #[.slice X L.length c, .int .i64 room] w fun e w' => e = .returned (.bool true) ∧ Below w.heap.size w w' := by
  have HE := Lib.hid hE
  have HA := Lib.hid h
  have ND := Lib.hid (diskNew room w hr0 hr1)
  clear hE h
  go_enter Tryz.func18, Tryz.ntmps18
  go_wp2_with (go_at_call 9; refine ND.out.mono ?_)
  first | rintro e w1 ⟨g, rfl, hd, b1⟩ | rintro e w1 g rfl hd b1
  have HB1 := Lib.hid b1
  have OP := Lib.hid (liveOpen (b := [118]) hd (fun x hx => hx.1) b1.size (HE.out.below b1) base_v (open_new (D := dsk0 room) ⟨rfl, rfl, rfl⟩ rfl))
  generalize (openD [118] (dsk0 room)).2 = D0 at *
  clear hd b1 ND
  go_wp2_with (go_at_call 10; refine OP.out.mono ?_)
  rintro e w2 ⟨p, S', rfl, hl, hn, hm, hp⟩
  have HB2 : Hid (Below w.heap.size w w2) := Lib.hid (Mods.old HB1.out hm HB1.out.size (fun i _ h => h.1))
  have HR0 : Hid (RunAt w g 0 (.pointer (some ⟨p, 0, none⟩)) (.slice none 0 0) (.bool false) w2) := Lib.hid ⟨⟨S', p, none, D0, rfl, hl, none, 0, [], rfl, rfl, rfl, OB.nil _ _, fun y hy => by simp at hy⟩, HB2.out⟩
  clear hl hn hm OP HB1
  go_wp2_with fail
  go_loopw [7, 8, 9, 10, 11] (fun s7 s8 s9 s10 s11 wr => ∃ k : Nat, k ≤ L.length ∧ k ≤ 60 ∧ s8 = .int .i64 0 ∧ s11 = .int .i64 (k : Int) ∧ Hid (RunAt w g k s7 s9 s10 wr)) (fun _ _ _ _ s11 _ => L.length - (intOf s11).toNat)
  case atStart => exact ⟨0, Nat.zero_le _, by omega, rfl, rfl, HR0⟩
  case round =>
    clear HR0
    obtain ⟨k, hk, hk60, rfl, rfl, HK⟩ := hrel
    by_cases hlt : k < L.length
    · by_cases hlt2 : k < 60
      · obtain ⟨b, off, rfl, hbl, a0, a1, a2, a3⟩ := (HA.out.below HK.out.bel).row hlt
        have HOK := Lib.hid ((HA.out.2 _ (List.getElem_mem hlt)).below HK.out.bel)
        have HCL : Hid (0 < L[k].data.length → ∀ b, L[k].A.map (·.block) = some b → b < w.heap.size) := Lib.hid fun h0 b hb => RB.lt ((HA.out.2 _ (List.getElem_mem hlt)).rb) h0 b hb
        generalize L[k] = a at *
        obtain ⟨kind, n, A, ca, data, mask⟩ := a
        simp only at a0 a1 a2 a3 HCL
        have HZ := Lib.hid (Blk.new wr #[.int .i64 0, .int .i64 0, .slice none 0 0, .int .u64 0] 79)
        obtain ⟨hba, hxa⟩ := below_row wr #[.int .i64 0, .int .i64 0, .slice none 0 0, .int .u64 0] #[.int .i64 kind, .int .i64 n, .slice A data.length ca, .int .u64 (mask : Int)] 79
        obtain ⟨wa, hwa⟩ : ∃ wa, wa = (wr.alloc (.cells #[.int .i64 0, .int .i64 0, .slice none 0 0, .int .u64 0] 79)).setRow wr.heap.size #[.int .i64 kind, .int .i64 n, .slice A data.length ca, .int .u64 (mask : Int)] := ⟨_, rfl⟩
        rw [← hwa] at hba hxa
        have HWA := Lib.hid hwa
        have HBA := Lib.hid hba
        have HXA := Lib.hid hxa
        clear hba hxa hwa
        go_wp2_with (refine wpList_store_row rfl 79 (.tmp 12) (.tmp 48) rfl wr.heap.size #[.int .i64 kind, .int .i64 n, .slice A data.length ca, .int .u64 (mask : Int)] rfl rfl _ _ HZ.out sact_size rfl (by simp [Value.oneCell']) ?_; rw [← HWA.out])
        refine wp_region_planE_gen (by kernel_rfl) [(0, none), (1, none), (2, none), (3, none), (4, none)] (by kernel_rfl) (by kernel_rfl) (by decide) ?_
        intro wq hwq
        have hBq : Below wa.heap.size wa wq := by rw [hwq]; exact (Below.refl _ _).drew
        have HXQ := Lib.hid (HXA.out.kept hBq)
        have HBQ := Lib.hid (HBA.out.trans (hBq.mono HBA.out.size))
        have x0 : wq.cell? ⟨wr.heap.size, 0, none⟩ = some (.int .i64 kind) := HXQ.out.cell 0 rfl
        clear hwq hBq HXA HBA HWA HZ
        iterate 1 (refine planE_pure (v := ?_) rfl (by rfl) (fun w' => ?_) ?_; rotate_left; (focus (simp only [List.getElem_toArray, List.getElem_cons_succ, List.getElem_cons_zero]; go_simp; first | with_reducible rfl | (simp (disch := omega) only [if_pos, if_neg, dif_pos, Result.andThen_ok]; try with_reducible rfl) | skip)); try simp only [List.getElem_toArray, List.getElem_cons_succ, List.getElem_cons_zero, Act.put, List.setIfInBounds_toArray, List.set_cons_zero, List.set_cons_succ])
        refine planE_cells (v := ?_) [(⟨wr.heap.size, 0, none⟩, .int .i64 kind)] (by simp; and_intros <;> assumption) rfl (by rfl) (fun w' hw' => ?_) ?_; rotate_left; (focus (simp only [List.forall_mem_cons, List.not_mem_nil, false_imp_iff, implies_true, and_true] at hw'; simp only [List.getElem_toArray, List.getElem_cons_succ, List.getElem_cons_zero]; go_simp; first | with_reducible rfl | (simp (disch := omega) only [if_pos, if_neg, dif_pos, Result.andThen_ok]; try with_reducible rfl) | skip)); try simp only [List.getElem_toArray, List.getElem_cons_succ, List.getElem_cons_zero, Act.put, List.setIfInBounds_toArray, List.set_cons_zero, List.set_cons_succ]
        iterate 3 (refine planE_pure (v := ?_) rfl (by rfl) (fun w' => ?_) ?_; rotate_left; (focus (simp only [List.getElem_toArray, List.getElem_cons_succ, List.getElem_cons_zero]; go_simp; first | with_reducible rfl | (simp (disch := omega) only [if_pos, if_neg, dif_pos, Result.andThen_ok]; try with_reducible rfl) | skip)); try simp only [List.getElem_toArray, List.getElem_cons_succ, List.getElem_cons_zero, Act.put, List.setIfInBounds_toArray, List.set_cons_zero, List.set_cons_succ])
        refine planE_end ?_
        obtain ⟨⟨S, p, v, D, rfl, hl, hv⟩, hbw⟩ := HK.out
        have hsz : w.heap.size ≤ wr.heap.size := hbw.size
        have HSA : Hid (¬ S wr.heap.size ∧ wr.heap.size ≠ p) := Lib.hid ⟨fun h => by have := hl.di.bnd _ h; omega, fun h => by have := hl.lt; omega⟩
        have HL := Lib.hid ((hl.mono (Nat.le_succ k)).below HBQ.out)
        have HL0 := Lib.hid (hl.below HBQ.out)
        have HV := Lib.hid (hv.mods (T := fun _ => False) (Mods.of_below HBQ.out) (fun _ _ h => h.elim))
        have HBW := Lib.hid (hbw.trans (HBQ.out.mono hsz))
        have HRB := Lib.hid (HOK.out.rb.below HBQ.out)
        have hszq : w.heap.size ≤ wq.heap.size := Nat.le_trans hsz HBQ.out.size
        have HN0 : Hid (OB wq w.heap.size none 0 []) := Lib.hid (OB.nil _ _)
        have hk1 : k + 1 ≤ 1000 := by omega
        have HNI : Hid (-9223372036854775808 ≤ n ∧ n ≤ 9223372036854775807) := Lib.hid HOK.out.n
        have HMI : Hid (mask < 18446744073709551616) := Lib.hid HOK.out.mask
        have hdl0 := HOK.out.len
        simp only at hdl0
        clear hl hv hbw HBQ HOK HCL HK a0 a1 a2 a3 x0
        have x0 : wq.cell? ⟨wr.heap.size, 0, none⟩ = some (.int .i64 kind) := HXQ.out.cell 0 rfl
        have x1 : wq.cell? ⟨wr.heap.size, 1, none⟩ = some (.int .i64 n) := HXQ.out.cell 1 rfl
        have x2 : wq.cell? ⟨wr.heap.size, 2, none⟩ = some (.slice A data.length ca) := HXQ.out.cell 2 rfl
        go_upto_block 2 with fail
        go_cut [7, 9, 10, 13, 14, 15] (fun s7 s9 s10 s13 s14 s15 wm => Hid (MidAt w g (k + 1) wr.heap.size #[.int .i64 kind, .int .i64 n, .slice A data.length ca, .int .u64 (mask : Int)] s7 s9 s10 s13 s14 s15 wm))
        case first =>
          by_cases h1 : kind = 1
          · subst h1
            by_cases hbig : 65520 < data.length
            · have hbig' : (65520 : Int) < (data.length : Int) := by omega
              have q2 : (wq.alloc (.cells #[] 5)).cell? ⟨wr.heap.size, 2, none⟩ = some (.slice A data.length ca) := (HXQ.out.kept ((Below.refl _ _).alloc (Nat.le_refl _) _)).cell 2 rfl
              go_wp2_with (first
                | (at_builtin; refine wp_appendB _ rfl (.tmp 56) (.tmp 58) rfl wq.heap.size _ _ _ _ [] data rfl rfl (OB.made0 _ (Nat.le_refl _)) (HRB.out.alloc _) (by simp; omega) (by simp) ?_; intro d1 A1 c1 w1 hd1 hd11 hd12 ho1 hg1; have hB1 : Below wq.heap.size wq w1 := ((Below.refl _ _).alloc (Nat.le_refl _) _).grown hg1 (by simp) (by simp [Value.ownBlock]); have y2 : (w1.alloc (.cells #[] 5)).cell? ⟨wr.heap.size, 2, none⟩ = some (.slice A data.length ca) := ((HXQ.out.kept hB1).kept ((Below.refl _ _).alloc (Nat.le_refl _) _)).cell 2 rfl; have HO1 := Lib.hid ho1; have HB1 := Lib.hid hB1; have HD1 : Hid (d1 = data) := Lib.hid (by simpa using hd1.out); clear ho1 hg1 hB1 hd1 hd11 hd12)
                | (at_builtin; refine wp_appendB _ rfl (.tmp 61) (.tmp 63) rfl w1.heap.size _ _ _ _ [] data rfl rfl (OB.made0 _ (Nat.le_refl _)) ((HRB.out.below HB1.out).alloc _) (by simp; omega) (by simp) ?_; intro d2 A2 c2 w2 hd2 hd21 hd22 ho2 hg2; have hB2 : Below w1.heap.size w1 w2 := ((Below.refl _ _).alloc (Nat.le_refl _) _).grown hg2 (by simp) (by simp [Value.ownBlock]); have z2 : w2.cell? ⟨wr.heap.size, 2, none⟩ = some (.slice A data.length ca) := ((HXQ.out.kept HB1.out).kept hB2).cell 2 rfl; have HB2 := Lib.hid (HB1.out.trans (hB2.mono HB1.out.size)); have HB21 := Lib.hid hB2; have hd2l : d2.length ≤ data.length := (by simpa using hd21); have hd2g : data.length ≤ d2.length := (by simpa using hd22); have HO2 := Lib.hid ho2; have HD2 : Hid (d2 = data) := Lib.hid (by simpa using hd2.out); clear ho2 hg2 hB2 hd2 hd21 hd22 q2 y2)
                | (go_at_call 13; refine (liveSave_large (HL.out.below HB2.out) A2 d2.length c2 (by omega) (by omega)).mono ?_))
              go_meet
              have hst := HL.out.di.bnd
              exact Lib.hid (midLive (HBW.out.trans (HB2.out.mono hszq)) (HXQ.out.kept HB2.out) (HL.out.below HB2.out) (HV.out.mods (T := fun _ => False) (Mods.of_below HB2.out) (fun _ _ h => h.elim)) HSA.out.1 ((HO1.out.below HB21.out).base_le hszq) (fun y hy hs => by have := (HO1.out.blk_in y hy).1; have := hst y hs; omega))
            · have hbig' : ¬ (65520 : Int) < (data.length : Int) := by omega
              have q2 : (wq.alloc (.cells #[] 5)).cell? ⟨wr.heap.size, 2, none⟩ = some (.slice A data.length ca) := (HXQ.out.kept ((Below.refl _ _).alloc (Nat.le_refl _) _)).cell 2 rfl
              have HST : Hid (∀ y, S y → y < wq.heap.size) := Lib.hid HL.out.di.bnd
              have HPL : Hid (p < wq.heap.size) := Lib.hid HL.out.lt
              go_wp2_with (first
                | (at_builtin; refine wp_appendB _ rfl (.tmp 56) (.tmp 58) rfl wq.heap.size _ _ _ _ [] data rfl rfl (OB.made0 _ (Nat.le_refl _)) (HRB.out.alloc _) (by simp; omega) (by simp) ?_; intro d1 A1 c1 w1 hd1 hd11 hd12 ho1 hg1; have hB1 : Below wq.heap.size wq w1 := ((Below.refl _ _).alloc (Nat.le_refl _) _).grown hg1 (by simp) (by simp [Value.ownBlock]); have y2 : (w1.alloc (.cells #[] 5)).cell? ⟨wr.heap.size, 2, none⟩ = some (.slice A data.length ca) := ((HXQ.out.kept hB1).kept ((Below.refl _ _).alloc (Nat.le_refl _) _)).cell 2 rfl; have HO1 := Lib.hid ho1; have HB1 := Lib.hid hB1; have HD1 : Hid (d1 = data) := Lib.hid (by simpa using hd1.out); clear ho1 hg1 hB1 hd1 hd11 hd12)
                | (at_builtin; refine wp_appendB _ rfl (.tmp 61) (.tmp 63) rfl w1.heap.size _ _ _ _ [] data rfl rfl (OB.made0 _ (Nat.le_refl _)) ((HRB.out.below HB1.out).alloc _) (by simp; omega) (by simp) ?_; intro d2 A2 c2 w2 hd2 hd21 hd22 ho2 hg2; have hB2 : Below w1.heap.size w1 w2 := ((Below.refl _ _).alloc (Nat.le_refl _) _).grown hg2 (by simp) (by simp [Value.ownBlock]); have z2 : w2.cell? ⟨wr.heap.size, 2, none⟩ = some (.slice A data.length ca) := ((HXQ.out.kept HB1.out).kept hB2).cell 2 rfl; have HB2 := Lib.hid (HB1.out.trans (hB2.mono HB1.out.size)); have HB21 := Lib.hid hB2; have hd2l : d2.length ≤ data.length := (by simpa using hd21); have hd2g : data.length ≤ d2.length := (by simpa using hd22); have HO2 := Lib.hid ho2; have HD2 : Hid (d2 = data) := Lib.hid (by simpa using hd2.out); clear ho2 hg2 hB2 hd2 hd21 hd22 q2 y2)
                | (go_at_call 13; refine (liveSaveAny (HL0.out.below HB2.out) (Nat.le_trans hszq HB2.out.size) (HE.out.below (HBW.out.trans (HB2.out.mono hszq))) base_v d2 A2 c2 HO2.out.rb (fun _ y hy => by
                    have h1 := (HO2.out.blk_in y hy).1
                    have h2 := HB1.out.size
                    exact ⟨fun hs => by have := HST.out y hs; omega, fun e => by have := HPL.out; omega⟩) (by omega) (by omega)).mono ?_))
              rintro e w3 ⟨S3, D3, r, rfl, hd3, hc3, hn3, hm3, h3⟩
              have HX3 : Hid (Blk w3 wr.heap.size 79 #[.int .i64 1, .int .i64 n, .slice A data.length ca, .int .u64 (mask : Int)]) := Lib.hid (((HXQ.out.kept HB2.out)).mods hm3 (fun h => by
                rcases h with h | h
                · exact HSA.out.1 h
                · exact HSA.out.2 h))
              have HB3 : Hid (Below w.heap.size w w3) := Lib.hid (Mods.old (HBW.out.trans (HB2.out.mono hszq)) hm3 (Nat.le_trans hszq HB2.out.size) (fun i _ h => by
                rcases h with h | h
                · exact HL.out.sge i h
                · subst h; exact HL.out.ge))
              have z3 : w3.cell? ⟨wr.heap.size, 2, none⟩ = some (.slice A data.length ca) := HX3.out.cell 2 rfl
              have HS3 : Hid (∀ y, y < wq.heap.size → S3 y → S y) := Lib.hid (fun y hy hs => by
                rcases hn3 y hs with h | h
                · exact h
                · have := HB2.out.size; omega)
              have HSA3 : Hid (¬ S3 wr.heap.size) := Lib.hid (fun h => HSA.out.1 (HS3.out _ (by have := HXQ.out.lt; omega) h))
              have HO13 : Hid (OB w3 w.heap.size A1 c1 d1 ∧ ∀ y, A1.map (·.block) = some y → (¬ S3 y ∧ y ≠ p)) := Lib.hid (by
                have hlt1 := HB21.out.size
                have k1 : ∀ y, A1.map (·.block) = some y → wq.heap.size ≤ y ∧ y < w1.heap.size := fun y hy => HO1.out.blk_in y hy
                refine ⟨((HO1.out.below HB21.out).base_le hszq).mods hm3 (fun y hy h => ?_), fun y hy => ⟨fun h => ?_, fun e => ?_⟩⟩
                · have := k1 y hy
                  rcases h with h | h
                  · have := HST.out y h; omega
                  · have := HPL.out; omega
                · have := k1 y hy
                  rcases hn3 y h with h | h
                  · have := HST.out y h; omega
                  · omega
                · have := k1 y hy; have := HPL.out; omega)
              have HV3 : Hid (VS w.heap.size (fun y => S3 y ∨ y = p) w3 u9 u10 v) := Lib.hid ((HV.out.mods (T := fun _ => False) (Mods.of_below HB2.out) (fun _ _ h => h.elim)).step (S' := fun y => S3 y ∨ y = p) hm3 (fun y h => h.elim (fun h => (hn3 y h).imp .inl id) (fun h => .inl (.inr h))))
              have HD3 := Lib.hid hd3
              have HC3 := Lib.hid hc3
              have HGE3 : Hid (∀ x, S3 x → w.heap.size ≤ x) := Lib.hid (fun x hx => by
                rcases hn3 x hx with h | h
                · exact HL.out.sge x h
                · have := HB2.out.size; omega)
              have HD12 : Hid (d2 = d1) := Lib.hid (by rw [HD1.out, HD2.out])
              clear hd3 hc3 hn3 hm3 z2
              rcases h3 with ⟨rfl, hl3⟩ | ⟨rfl, hl3⟩ | ⟨rfl, hf3⟩
              · have HL3 := Lib.hid hl3
                clear hl3
                go_wp2_with fail
                go_meet
                exact Lib.hid (midLive HB3.out HX3.out HL3.out ⟨A1, c1, d1, rfl, rfl, HD12.out, HO13.out.1, fun y hy h => by
                  rcases h with h | h
                  · exact (HO13.out.2 y hy).1 h
                  · exact (HO13.out.2 y hy).2 h⟩ HSA3.out HO13.out.1 (fun y hy => (HO13.out.2 y hy).1))
              · have HL3 := Lib.hid hl3
                clear hl3
                go_wp2_with fail
                go_meet
                exact Lib.hid (midLive HB3.out HX3.out HL3.out HV3.out HSA3.out HO13.out.1 (fun y hy => (HO13.out.2 y hy).1))
              · have HF3 := Lib.hid hf3
                clear hf3
                go_wp2_with fail
                go_meet
                exact Lib.hid ⟨HB3.out, HX3.out, S3, D3, v, d1, A1, c1, true, true, rfl, HO13.out.1, (fun y hy => (HO13.out.2 y hy).1), rfl, rfl, HSA3.out, HD3.out, HC3.out, HGE3.out, .inr ⟨rfl, HV3.out.set fun y _ h => .inl h, fun mask torn => by
                  obtain ⟨v', hv', ho'⟩ := HF3.out mask torn
                  exact ⟨v', hv'.imp id (fun h => ⟨rfl, by rw [h, HD12.out]⟩), ho'⟩⟩⟩
          · by_cases h3 : kind = 3
            · subst h3
              by_cases hn0 : 0 < n
              · have hn8 : n % 8 ≤ 9223372036854775807 := by omega
                go_wp2_with (go_at_call 39; refine (diskFuseC (n % 8) hn8 HL.out.di).mono ?_)
                rintro e w3 ⟨rfl, hd3, hm3⟩
                have hl3 := HL.out.disk hszq hd3 hm3 (by unfold fuseD; split <;> rfl) (by unfold fuseD; split <;> rfl) (by unfold fuseD; split <;> rfl)
                have HM := Lib.hid (midDisk HBW.out HXQ.out HL.out HV.out HSA.out hszq hm3 hl3)
                clear hd3 hm3 hl3
                go_wp2_with fail
                go_meet
                exact HM
              · go_wp2_with fail
                go_meet
                exact Lib.hid (midLive HBW.out HXQ.out HL.out HV.out HSA.out.1 HN0.out (fun y hy => by simp at hy))
            · by_cases h4 : kind = 4
              · subst h4
                by_cases hn0 : 0 ≤ n
                · by_cases hn1 : n < 100000
                  · go_wp2_with fail
                    obtain ⟨wz, hz⟩ : ∃ wz, wz = wq := ⟨_, rfl⟩
                    subst hz
                    refine wp_region_planE_gen (by kernel_rfl) [(0, none), (1, none), (3, none), (4, none), (2, some [1]), (5, none), (6, some [0, 5])] (by kernel_rfl) (by kernel_rfl) (by decide) ?_
                    intro wq hwq
                    have hBy : Below wz.heap.size wz wq := by rw [hwq]; exact (Below.refl _ _).drew
                    have HXy := Lib.hid (HXQ.out.kept hBy)
                    have HLy := Lib.hid (HL.out.below hBy)
                    have HVy := Lib.hid (HV.out.mods (T := fun _ => False) (Mods.of_below hBy) (fun _ _ h => h.elim))
                    have HBy := Lib.hid (HBW.out.trans (hBy.mono hszq))
                    have hszy : w.heap.size ≤ wq.heap.size := HBy.out.size
                    have hus := HLy.out.used
                    have x1 : wq.cell? ⟨wr.heap.size, 1, none⟩ = some (.int .i64 n) := HXy.out.cell 1 rfl
                    clear hwq hBy
                    iterate 3 (refine planE_pure (v := ?_) rfl (by rfl) (fun w' => ?_) ?_; rotate_left; (focus (simp only [List.getElem_toArray, List.getElem_cons_succ, List.getElem_cons_zero]; go_simp; first | with_reducible rfl | (simp (disch := omega) only [if_pos, if_neg, dif_pos, Result.andThen_ok]; try with_reducible rfl) | skip)); try simp only [List.getElem_toArray, List.getElem_cons_succ, List.getElem_cons_zero, Act.put, List.setIfInBounds_toArray, List.set_cons_zero, List.set_cons_succ])
                    refine planE_cells (v := ?_) [(⟨wr.heap.size, 1, none⟩, .int .i64 n)] (by simp; and_intros <;> assumption) rfl (by rfl) (fun w' hw' => ?_) ?_; rotate_left; (focus (simp only [List.forall_mem_cons, List.not_mem_nil, false_imp_iff, implies_true, and_true] at hw'; simp only [List.getElem_toArray, List.getElem_cons_succ, List.getElem_cons_zero]; go_simp; first | with_reducible rfl | (simp (disch := omega) only [if_pos, if_neg, dif_pos, Result.andThen_ok]; try with_reducible rfl) | skip)); try simp only [List.getElem_toArray, List.getElem_cons_succ, List.getElem_cons_zero, Act.put, List.setIfInBounds_toArray, List.set_cons_zero, List.set_cons_succ]
                    refine planE_eff rfl (by rfl) (fun K hK => ?_)
                    go_simp
                    refine (diskUsedC HLy.out.di (by have := HLy.out.files.2; omega)).mono ?_
                    rintro e w4 ⟨rfl, b4⟩
                    have HX4 := Lib.hid (HXy.out.kept b4)
                    have HL4 := Lib.hid (HLy.out.below b4)
                    have HV4 := Lib.hid (HVy.out.mods (T := fun _ => False) (Mods.of_below b4) (fun _ _ h => h.elim))
                    have HB4 := Lib.hid (HBy.out.trans (b4.mono hszy))
                    have hsz4 : w.heap.size ≤ w4.heap.size := HB4.out.size
                    generalize fsize D.files = us at *
                    have x1 : w4.cell? ⟨wr.heap.size, 1, none⟩ = some (.int .i64 n) := HX4.out.cell 1 rfl
                    refine hK _ _ (by simp [owed, left] <;> (and_intros <;> first | trivial | assumption)) ?_
                    clear hK K
                    try simp only [List.getElem_toArray, List.getElem_cons_succ, List.getElem_cons_zero, Act.put, List.setIfInBounds_toArray, List.set_cons_zero, List.set_cons_succ]
                    iterate 1 (refine planE_pure (v := ?_) rfl (by rfl) (fun w' => ?_) ?_; rotate_left; (focus (simp only [List.getElem_toArray, List.getElem_cons_succ, List.getElem_cons_zero]; go_simp; first | with_reducible rfl | (simp (disch := omega) only [if_pos, if_neg, dif_pos, Result.andThen_ok]; try with_reducible rfl) | skip)); try simp only [List.getElem_toArray, List.getElem_cons_succ, List.getElem_cons_zero, Act.put, List.setIfInBounds_toArray, List.set_cons_zero, List.set_cons_succ])
                    refine planE_eff rfl (by rfl) (fun K hK => ?_)
                    go_simp
                    refine (diskRoomC _ HL4.out.di).mono ?_
                    rintro e w5 ⟨rfl, hd5, hm5⟩
                    have hl5 := HL4.out.disk hsz4 hd5 hm5 (by unfold roomD; split <;> rfl) (by unfold roomD; split <;> rfl) (by unfold roomD; split <;> rfl)
                    have HM := Lib.hid (midDisk HB4.out HX4.out HL4.out HV4.out HSA.out hsz4 hm5 hl5)
                    clear x1
                    have x1 : w5.cell? ⟨wr.heap.size, 1, none⟩ = some (.int .i64 n) := (HX4.out.mods hm5 HSA.out.1).cell 1 rfl
                    clear hd5 hm5 hl5
                    refine hK _ _ (by simp [owed, left] <;> (and_intros <;> first | trivial | assumption)) ?_
                    clear hK K
                    try simp only [List.getElem_toArray, List.getElem_cons_succ, List.getElem_cons_zero, Act.put, List.setIfInBounds_toArray, List.set_cons_zero, List.set_cons_succ]
                    refine planE_end ?_
                    go_wp2_with fail
                    go_meet
                    exact HM
                  · go_wp2_with fail
                    go_meet
                    exact Lib.hid (midLive HBW.out HXQ.out HL.out HV.out HSA.out.1 HN0.out (fun y hy => by simp at hy))
                · go_wp2_with fail
                  go_meet
                  exact Lib.hid (midLive HBW.out HXQ.out HL.out HV.out HSA.out.1 HN0.out (fun y hy => by simp at hy))
              · by_cases h2 : kind = 2
                · subst h2
                  go_wp2_with fail
                  go_meet
                  exact Lib.hid (midFall HBW.out HXQ.out HL.out HV.out HSA.out.1 hk1)
                · have h2' : (kind == 2) = false := by simpa using h2
                  have HM := Lib.hid (midLive HBW.out HXQ.out HL.out HV.out HSA.out.1 HN0.out (fun y hy => by simp at hy))
                  go_wp2_with fail
                  go_meet
                  exact HM
        case rest =>
          clear x0 x1 x2 HXQ HL HL0 HV HBW HRB HN0
          obtain ⟨hbm, hxm, S4, D4, v4, nx, Y4, c4, tr, fa, rfl, ho4, hy4, rfl, rfl, hsa4, hd4, hc4, hge4, h4⟩ := hcut.out
          have x1 : wc.cell? ⟨wr.heap.size, 1, none⟩ = some (.int .i64 n) := hxm.cell 1 rfl
          have x3 : wc.cell? ⟨wr.heap.size, 3, none⟩ = some (.int .u64 (mask : Int)) := hxm.cell 3 rfl
          have HBM := Lib.hid hbm
          have hszm : w.heap.size ≤ wc.heap.size := hbm.size
          rcases h4 with ⟨rfl, rfl, p4, rfl, hl4, hv4⟩ | ⟨rfl, hv4, hf4⟩
          · obtain ⟨Y9, c9, l9, rfl, rfl, hvl, hov, hsv⟩ := hv4
            have LH := Lib.hid (lawHas hl4 l9 Y9 c9 hov.rb v4.isSome)
            rw [← hvl, hasV_self, hvl] at LH
            have HN : Hid (∀ w', Below wc.heap.size wc w' → RunAt w g (k + 1) (.pointer (some ⟨p4, 0, none⟩)) (.slice Y9 l9.length c9) (.bool v4.isSome) w') := Lib.hid (fun w' hb => ⟨⟨S4, p4, v4, D4, rfl, hl4.below hb, Y9, c9, l9, rfl, rfl, hvl, hov.below hb, hsv⟩, hbm.trans (hb.mono hszm)⟩)
            clear hbm hxm ho4 hy4 hsa4 hd4 hc4 hge4 hl4 hov hsv hvl hcut
            generalize v4.isSome = sm at *
            go_wp2_with (go_at_call 14; refine LH.out.mono ?_)
            first | rintro e w5 ⟨rfl, b5⟩ | rintro e w5 rfl b5
            have HN5 := Lib.hid (HN.out w5 b5)
            clear LH HN b5 x1 x3
            go_wp2_with fail
            go_roundw
            case rel => exact ⟨k + 1, by omega, by omega, rfl, by go_num, HN5⟩
            case measure => simp [intOf]; omega
          · have hmk := HMI.out
            have hni := HNI.out
            have FA := Lib.hid (diskFallC mask n hd4 (by omega) hmk hni)
            have HY4 := Lib.hid hy4
            have HO4 := Lib.hid ho4
            have HV4 := Lib.hid hv4
            have HF4 := Lib.hid hf4
            have HGE4 := Lib.hid hge4
            clear hbm hxm ho4 hy4 hsa4 hd4 hc4 hge4 hv4 hf4 hcut hmk hni
            go_wp2_with (go_at_call 17; refine FA.out.mono ?_)
            rintro e w5 ⟨rfl, hd5, hm5⟩
            obtain ⟨v', hv', ho'⟩ := HF4.out mask n
            have hge5 : ∀ x, Sx S4 wc w5 x → w.heap.size ≤ x := fun x hx => hx.elim (HGE4.out x) (fun h => Nat.le_trans hszm h.1)
            have hb5 : Below w.heap.size w w5 := Mods.old HBM.out hm5 hszm (fun i _ h => HGE4.out i h)
            have hv5 := HV4.out.step (S' := Sx S4 wc w5) hm5 (fun y h => h.imp id (fun h => h.1))
            have ho5 := HO4.out.mods hm5 HY4.out
            have hy5 : ∀ y, Y4.map (·.block) = some y → ¬ Sx S4 wc w5 y := fun y hy h => h.elim (HY4.out y hy) (fun h => by have := (HO4.out.blk_in y hy).2; have := h.1; omega)
            have OP := Lib.hid (liveOpen (b := [118]) hd5 hge5 hb5.size (HE.out.below hb5) base_v ho')
            generalize (openD [118] (fallD D4 mask n)).2 = D6 at *
            have HB5 := Lib.hid hb5
            have HV5 := Lib.hid hv5
            have HO5 := Lib.hid ho5
            have HY5 := Lib.hid hy5
            have HGE5 := Lib.hid hge5
            have HVE := Lib.hid hv'
            clear FA hd5 hm5 ho' hb5 hv5 ho5 hy5 hge5 hv' HV4 HO4 HY4 HF4 x1 x3 HBM
            go_wp2_with (go_at_call 10; refine OP.out.mono ?_)
            rintro e w6 ⟨p6, S6, rfl, hl6, hn6, hm6, hp6⟩
            have HB6 : Hid (Below w.heap.size w w6) := Lib.hid (Mods.old HB5.out hm6 HB5.out.size (fun i _ h => HGE5.out i h))
            have HV6 := Lib.hid (HV5.out.step (S' := fun y => S6 y ∨ y = p6) hm6 (fun y h => h.elim (hn6 y) (fun h => .inr (by omega))))
            have HO6 := Lib.hid (HO5.out.mods hm6 HY5.out)
            have HY6 : Hid (∀ y, Y4.map (·.block) = some y → ¬ (S6 y ∨ y = p6)) := Lib.hid (fun y hy h => by
              have h1 := (HO5.out.blk_in y hy).2
              rcases h with h | h
              · rcases hn6 y h with h | h
                · exact HY5.out y hy h
                · omega
              · omega)
            have HL6 := Lib.hid hl6
            clear OP hl6 hn6 hm6 hp6 HV5 HO5 HY5 HGE5 HB5
            have HFIN : ∀ wz s9 s10, Below w6.heap.size w6 wz → VS w.heap.size (fun y => S6 y ∨ y = p6) w6 s9 s10 v' → Calls Tryz.prog 14 #[.pointer (some ⟨p6, 0, none⟩), s9, s10] wz (fun e w' => e = .returned (.bool true) ∧ RunAt w g (k + 1) (.pointer (some ⟨p6, 0, none⟩)) s9 s10 w') := by
              rintro wz s9 s10 hb ⟨Y9, c9, l9, rfl, rfl, hvl, hov, hsv⟩
              have LH := lawHas (HL6.out.below hb) l9 Y9 c9 (hov.below hb).rb v'.isSome
              rw [← hvl, hasV_self, hvl] at LH
              refine LH.mono ?_
              rintro e w7 ⟨rfl, b7⟩
              have hb7 := hb.trans (b7.mono hb.size)
              exact ⟨rfl, ⟨S6, p6, v', D6, rfl, HL6.out.below hb7, Y9, c9, l9, rfl, rfl, hvl, hov.below hb7, hsv⟩, HB6.out.trans (hb7.mono HB6.out.size)⟩
            cases tr with
            | false =>
              have hvv : v' = v4 := HVE.out.elim id (fun h => by simp at h)
              have LH := Lib.hid (HFIN w6 _ _ (Below.refl _ _) (by rw [hvv]; exact HV6.out))
              obtain ⟨Y9, c9, l9, h9, h10, h11, h12, h13⟩ := HV6.out
              subst h9 h10
              generalize v4.isSome = sm4 at *
              clear HFIN hvv HVE HV6 h11 h12 h13
              go_wp2_with (go_at_call 14; refine LH.out.mono ?_)
              first | rintro e w7 ⟨rfl, hn7⟩ | rintro e w7 rfl hn7
              have HN5 := Lib.hid hn7
              clear LH hn7
              go_wp2_with fail
              go_roundw
              case rel => exact ⟨k + 1, by omega, by omega, rfl, by go_num, HN5⟩
              case measure => simp [intOf]; omega
            | true =>
              have LT := Lib.hid (lawHas HL6.out nx Y4 c4 HO6.out.rb true)
              have HE' : Hid (hasV v' nx true = decide (v' = some nx)) := Lib.hid (by simp [hasV])
              rw [HE'.out] at LT
              by_cases hvn : v' = some nx
              · rw [decide_eq_true hvn] at LT
                have HVN := Lib.hid hvn
                have HLH : Hid (∀ wz, Below w6.heap.size w6 wz → Calls Tryz.prog 14 #[.pointer (some ⟨p6, 0, none⟩), .slice Y4 nx.length c4, .bool true] wz (fun e w' => e = .returned (.bool true) ∧ RunAt w g (k + 1) (.pointer (some ⟨p6, 0, none⟩)) (.slice Y4 nx.length c4) (.bool true) w')) := Lib.hid (fun wz hb => HFIN wz _ _ hb (by rw [HVN.out]; exact ⟨Y4, c4, nx, rfl, rfl, rfl, HO6.out, HY6.out⟩))
                obtain ⟨Y9, c9, l9, h9, h10, h11, h12, h13⟩ := HV6.out
                subst h9 h10
                generalize v4.isSome = sm4 at *
                clear HFIN hvn HVE HV6 HE' h11 h12 h13
                go_wp2_with (go_at_call 14; refine LT.out.mono ?_)
                first | rintro e w7 ⟨rfl, b7⟩ | rintro e w7 rfl b7
                have LH := Lib.hid (HLH.out w7 b7)
                clear LT HLH b7
                go_wp2_with (go_at_call 14; refine LH.out.mono ?_)
                first | rintro e w8 ⟨rfl, hn8⟩ | rintro e w8 rfl hn8
                have HN5 := Lib.hid hn8
                clear LH hn8
                go_wp2_with fail
                go_roundw
                case rel => exact ⟨k + 1, by omega, by omega, rfl, by go_num, HN5⟩
                case measure => simp [intOf]; omega
              · rw [decide_eq_false hvn] at LT
                have hvv : v' = v4 := HVE.out.elim id (fun h => absurd h.2 hvn)
                have HVV := Lib.hid hvv
                have HLH := Lib.hid (fun wz hb => HFIN wz _ _ hb (by rw [HVV.out]; exact HV6.out))
                obtain ⟨Y9, c9, l9, h9, h10, h11, h12, h13⟩ := HV6.out
                subst h9 h10
                generalize v4.isSome = sm4 at *
                clear HFIN hvn HVE HV6 HE' h11 h12 h13 hvv
                go_wp2_with (go_at_call 14; refine LT.out.mono ?_)
                first | rintro e w7 ⟨rfl, b7⟩ | rintro e w7 rfl b7
                have LH := Lib.hid (HLH.out w7 b7)
                clear LT HLH b7
                go_wp2_with (go_at_call 14; refine LH.out.mono ?_)
                first | rintro e w8 ⟨rfl, hn8⟩ | rintro e w8 rfl hn8
                have HN5 := Lib.hid hn8
                clear LH hn8
                go_wp2_with fail
                go_roundw
                case rel => exact ⟨k + 1, by omega, by omega, rfl, by go_num, HN5⟩
                case measure => simp [intOf]; omega
      · have hk60' : ¬ (k : Int) < 60 := by omega
        have HB := Lib.hid HK.out.bel
        clear HK
        go_wp2_with fail
        go_ret
        exact ⟨rfl, HB.out⟩
    · have HB := Lib.hid HK.out.bel
      clear HK
      go_wp2_with fail
      go_ret
      exact ⟨rfl, HB.out⟩
set_option maxRecDepth 20000 in
set_option maxHeartbeats 2000000 in
theorem walkSlotActs (X : Option Addr) (c : Nat) (L0 : List (List Fv)) (w : World) (hX : RS w X 4 (L0.map (·.map Fv.val))) (hL : L0.length ≤ 9223372036854775807) (hR : ∀ r ∈ L0, rowOk w sactK r) (hl : laidMetH Tryz.prog Rows.slotActsRow.laid w) :
    Calls Tryz.prog 7 #[.slice X L0.length c] w fun e w' => e = .returned (.bool true) ∧ Below w.heap.size w w' := by
  have hE := senv_of hl (by kernel_rfl) (by simp [Rows.slotActsRow]) (by simp [Rows.slotActsRow]) (by simp [Rows.slotActsRow])
  obtain ⟨L, hL', hacts⟩ := sacts_of hX hR
  rw [← hL'] at hL ⊢
  have HE := Lib.hid hE
  have HA := Lib.hid hacts
  clear hX hR hL' hacts hl hE
  go_enter Tryz.func7, Tryz.ntmps7
  go_wp2_with (go_at_call 12; refine (slotAnswers _ HE.out).mono ?_)
  first | rintro e w1 ⟨rfl, b1⟩ | rintro e w1 rfl b1
  have HB := Lib.hid b1
  have RN := Lib.hid (lawRun X c L 400000 w1 (HA.out.below b1) hL (by decide) (by decide) ((HE.out.below b1).up b1.size))
  clear b1
  go_wp2_with (go_at_call 18; refine RN.out.mono ?_)
  first | rintro e w2 ⟨rfl, b2⟩ | rintro e w2 rfl b2
  have HB2 := Lib.hid (HB.out.trans (b2.mono HB.out.size))
  clear b2 RN
  go_wp2_with fail
  go_ret
  exact ⟨rfl, HB2.out⟩
set_option maxRecDepth 20000 in
set_option maxHeartbeats 2000000 in
theorem walkSlotFull (X : Option Addr) (c : Nat) (L0 : List (List Fv)) (n : Int) (w : World) (hX : RS w X 4 (L0.map (·.map Fv.val))) (hL : L0.length ≤ 9223372036854775807) (hR : ∀ r ∈ L0, rowOk w sactK r) (hn : 0 ≤ n ∧ n ≤ 65535) (hl : laidMetH Tryz.prog Rows.slotFullRow.laid w) :
    Calls Tryz.prog 8 #[.slice X L0.length c, .int .u16 n] w fun e w' => e = .returned (.bool true) ∧ Below w.heap.size w w' := by
  have hE := senv_of hl (by kernel_rfl) (by simp [Rows.slotFullRow]) (by simp [Rows.slotFullRow]) (by simp [Rows.slotFullRow])
  obtain ⟨L, hL', hacts⟩ := sacts_of hX hR
  rw [← hL'] at hL ⊢
  have HE := Lib.hid hE
  have HA := Lib.hid hacts
  obtain ⟨hn0, hn1⟩ := hn
  clear hX hR hL' hacts hl hE
  go_enter Tryz.func8, Tryz.ntmps8
  go_wp2_with (go_at_call 12; refine (slotAnswers _ HE.out).mono ?_)
  first | rintro e w1 ⟨rfl, b1⟩ | rintro e w1 rfl b1
  have HB := Lib.hid b1
  have RN := Lib.hid (lawRun X c L (n % 300) w1 (HA.out.below b1) hL (by omega) (by omega) ((HE.out.below b1).up b1.size))
  clear b1
  go_wp2_with (go_at_call 18; refine RN.out.mono ?_)
  first | rintro e w2 ⟨rfl, b2⟩ | rintro e w2 rfl b2
  have HB2 := Lib.hid (HB.out.trans (b2.mono HB.out.size))
  clear b2 RN
  go_wp2_with fail
  go_ret
  exact ⟨rfl, HB2.out⟩
end Go.Proofs.YtpfamdcdbjaflaaGreatDoor
