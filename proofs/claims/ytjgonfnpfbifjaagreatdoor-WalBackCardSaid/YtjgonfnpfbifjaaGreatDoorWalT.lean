/- WalT: put together by merge.py of: WalJ, WalK. -/
import Derived.Test.YtjgonfnpfbifjaaGreatDoorWalO
import Derived.Deep.CutBlock
import Derived.Deep.DeepCutAuto
import Derived.OwnWalk
/- The law's whole: copies of rows. -/
namespace Go.Proofs.YtjgonfnpfbifjaaGreatDoor
open Go.RowKit

/-- Rows of bytes, all of the call's own. -/
structure RowsB (w : World) (B : Nat) (A : Option Addr) (c : Nat) (Y : List (List UInt8 × Option Addr × Nat)) : Prop where
  rv : OV w B TB A c (Y.map recV)
  rc : ∀ y ∈ Y, OB w B y.2.1 y.2.2 y.1
section
variable {B c : Nat} {T : Nat → Prop} {w w' : World} {A : Option Addr} {Y : List (List UInt8 × Option Addr × Nat)}
theorem RowsB.below (h : RowsB w B A c Y) (hb : Below w.heap.size w w') : RowsB w' B A c Y := ⟨h.rv.below hb, fun y hy => (h.rc y hy).below hb⟩
theorem RowsB.add {A' : Option Addr} {c' : Nat} {y : List UInt8 × Option Addr × Nat} (h : RowsB w B A c Y) (ho : OB w B y.2.1 y.2.2 y.1) (hg : w.grownBy w' (A.map (·.block))) (hr : OV w' B TB A' c' (Y.map recV ++ [recV y])) : RowsB w' B A' c' (Y ++ [y]) := by
  have m : Mods (fun k => A.map (·.block) = some k) w w' := Mods.of_grown hg (fun k e => e)
  have ne : ∀ (x : List UInt8 × Option Addr × Nat), OB w B x.2.1 x.2.2 x.1 → OB w' B x.2.1 x.2.2 x.1 := fun x hx => hx.mods m (fun k hk e => by
    obtain ⟨cs, hb⟩ := hx.blk k hk
    exact h.rv.ne_blk hb (by decide) e)
  refine ⟨by rw [List.map_append]; exact hr, fun x hx => ?_⟩
  rcases List.mem_append.1 hx with hx | hx
  · exact ne x (h.rc x hx)
  · rw [List.mem_singleton.1 hx]; exact ne y ho
/-- Such rows, handed to Append. -/
theorem RowsB.rl (h : RowsB w B A c Y) (hT : ∀ b, T b → b < B) (hl : ∀ y ∈ Y, y.1.length ≤ 140737488355328) : RL T w A (Y.map fun y => (y.2.1, y.2.2, y.1)) := by
  refine ⟨⟨?_, fun t ht => ?_⟩, fun _ b hb ht => ?_, fun t ht _ b hb h2 => ?_⟩
  · rw [List.map_map]; exact h.rv.rv
  · obtain ⟨y, hy, rfl⟩ := List.mem_map.1 ht
    exact ⟨(h.rc y hy).rb, hl y hy⟩
  · have := (h.rv.blk_lt b hb).1
    have := hT b ht
    omega
  · obtain ⟨y, hy, rfl⟩ := List.mem_map.1 ht
    have := ((h.rc y hy).blk_in b hb).1
    have := hT b h2
    omega
theorem tb_info2 : (Tryz.prog.info? 33).map (fun i => (i.zero, i.size, i.bytes)) = some (some (.slice none 0 0), 1, 24) := by kernel_rfl
/-- What whole ends in. -/
def WholeE (B : Nat) (w : World) (L : List (List UInt8)) (e : Ending) (w' : World) : Prop :=
  ∃ A c Y, e = .returned (.tuple #[.slice A Y.length c, .bool (L.all fun r => decide (r.length ≤ 65520))]) ∧ Y.map Prod.fst = L ∧ RowsB w' B A c Y ∧ Below w.heap.size w w'
set_option maxRecDepth 20000 in
set_option maxHeartbeats 4000000 in
theorem lawWhole (X : Option Addr) (cx : Nat) (L : List (Option Addr × Nat × List UInt8)) (hX : RBB w X L) (hL : L.length ≤ 5864062014700) :
    Calls Tryz.prog 8 #[.slice X L.length cx] w (WholeE w.heap.size w (L.map (·.2.2))) := by
  have HX := Lib.hid hX
  clear hX
  go_enter Tryz.func8, Tryz.ntmps8
  go_wp2_with fail
  go_loopw [4, 5, 6] (fun s4 s5 s6 wr => ∃ (k : Nat) (A : Option Addr) (c : Nat) (Y : List (List UInt8 × Option Addr × Nat)), k ≤ L.length ∧ s6 = .int .i64 (k : Int) ∧ s4 = .slice A Y.length c ∧ s5 = .bool (((L.take k).map (·.2.2)).all fun r => decide (r.length ≤ 65520)) ∧
    Hid (Y.map Prod.fst = (L.take k).map (·.2.2)) ∧ Hid (RowsB wr w.heap.size A c Y) ∧ Hid (Below w.heap.size w wr)) (fun _ _ s6 _ => L.length - (intOf s6).toNat)
  case atStart => exact ⟨0, none, 0, [], Nat.zero_le _, rfl, rfl, rfl, Lib.hid rfl, Lib.hid ⟨OV.nil _ _ _, by simp⟩, Lib.hid (Below.refl _ _)⟩
  case round =>
    obtain ⟨k, A, c, Y, hk, rfl, rfl, rfl, HY, HR, HB⟩ := hrel
    by_cases hlt : k < L.length
    · have hki : (k : Int) < (L.length : Int) := by omega
      have hki0 : (0 : Int) ≤ (k : Int) := by omega
      have hxr := HX.out.below HB.out
      obtain ⟨xb, off, rfl, hbl, hc⟩ := hxr.cell hlt
      have hrb := hxr.each L[k] (List.getElem_mem hlt)
      have hw1 : IntKind.i64.wrap ((k : Int) + 1) = ((k + 1 : Nat) : Int) := by rw [IntWalk.i64_in _ (by omega)]; omega
      obtain ⟨⟨A0, c0, r⟩, hy⟩ : ∃ y, y = L[k] := ⟨_, rfl⟩
      rw [← hy] at hc hrb
      simp only at hc hrb
      have HRB := Lib.hid hrb.1
      have hrl := hrb.2
      obtain ⟨ok, hok⟩ : ∃ ok, ok = (((L.take k).map (·.2.2)).all fun r => decide (r.length ≤ 65520)) := ⟨_, rfl⟩
      have htk : (L.take (k + 1)).map (·.2.2) = (L.take k).map (·.2.2) ++ [r] := by
        rw [List.take_succ_eq_append_getElem hlt, List.map_append, ← hy]; rfl
      have HOK : Hid ((((L.take (k + 1)).map (·.2.2)).all fun r => decide (r.length ≤ 65520)) = (ok && decide (r.length ≤ 65520))) := Lib.hid (by
        rw [htk, List.all_append, ← hok]; simp)
      have HYN : Hid ((L.take (k + 1)).map (·.2.2) = Y.map Prod.fst ++ [r]) := Lib.hid (by rw [htk, HY.out])
      rw [← hok]
      clear hy hrb hxr hok htk HY
      go_upto_region 6 with fail
      go_cut [5] (fun s5 wx => s5 = .bool (ok && decide (r.length ≤ 65520)) ∧ wx = wr)
      case first =>
        cases ok
        · go_wp2_with fail
          go_meet
          exact ⟨rfl, by first | rfl | trivial⟩
        · by_cases hr : r.length ≤ 65520
          · have hrI : (r.length : Int) ≤ 65520 := by omega
            have HDR := Lib.hid (show decide (r.length ≤ 65520) = true by simpa using hr)
            go_wp2_with fail
            go_meet
            exact ⟨by rw [HDR.out]; first | done | rfl, by first | rfl | trivial⟩
          · have hrI : ¬ (r.length : Int) ≤ 65520 := by omega
            have HDR := Lib.hid (show decide (r.length ≤ 65520) = false by simpa using hr)
            go_wp2_with fail
            go_meet
            exact ⟨by rw [HDR.out]; first | done | rfl, by first | rfl | trivial⟩
      case rest =>
        obtain ⟨rfl, rfl⟩ := hcut
        rw [← HOK.out]
        obtain ⟨i0, hi0, hz0, hz1, hz2⟩ := info_parts tb_info2
        have hws : w.heap.size ≤ wc.heap.size := HB.out.size
        have ha0 : Below wc.heap.size wc (wc.alloc (.cells #[] 5)) := (Below.refl _ _).alloc (Nat.le_refl _) _
        have HE0 := Lib.hid (OB.made0 (base := w.heap.size) wc hws)
        have HR0 := Lib.hid (HRB.out.below ha0)
        have HA0 := Lib.hid ha0
        have hs0 : w.heap.size ≤ (wc.alloc (.cells #[] 5)).heap.size := Nat.le_trans hws ha0.size
        obtain ⟨xs, hxs⟩ : ∃ xs, xs = Y.map recV := ⟨_, rfl⟩
        have hxl : Y.length = xs.length := by rw [hxs, List.length_map]
        have hxk : xs.length ≤ 5864062014700 := by
          have e := congrArg List.length HYN.out
          rw [List.length_map, List.length_take, List.length_append, List.length_map] at e
          simp only [List.length_cons, List.length_nil] at e
          omega
        have HXS := Lib.hid hxs
        rw [hxl]
        clear hxs ha0
        go_wp2_with (first
          | (at_builtin; refine wp_appendB _ rfl (.tmp 23) (.tmp 27) rfl w.heap.size _ _ _ _ [] r rfl rfl HE0.out HR0.out (by simp only [List.length_nil]; omega) hs0 ?_; intro d A1 c1 w5 hd hd1 hd2 ho5 hg5; have hb5 : Below wc.heap.size wc w5 := ⟨hg5.os.trans HA0.out.os, hg5.tape.trans HA0.out.tape, hg5.output.trans HA0.out.output, Nat.le_trans HA0.out.size hg5.size, fun i hi => (hg5.block i (Nat.lt_of_lt_of_le hi HA0.out.size) (fun e => by simp [Value.ownBlock] at e; omega)).trans (HA0.out.block i hi)⟩; have HB5 := Lib.hid hb5; have HD := Lib.hid hd.out; have ha6 : Below w5.heap.size w5 (w5.alloc (.cells #[.slice A1 d.length c1] TB)) := (Below.refl _ _).alloc (Nat.le_refl _) _; have HO6 := Lib.hid (ho5.below ha6); have HB6 := Lib.hid (hb5.trans (ha6.mono hb5.size)); have HL6 := Lib.hid ((Blk.new w5 #[.slice A1 d.length c1] TB).cell (j := 0) (v := .slice A1 d.length c1) rfl); have HR6 := Lib.hid (HR.out.below HB6.out); have HSV := HR6.out.rv; rw [← HXS.out] at HSV; have HSV2 := Lib.hid HSV; have hs6 : w.heap.size ≤ (w5.alloc (.cells #[.slice A1 d.length c1] TB)).heap.size := Nat.le_trans hws HB6.out.size; clear hd ho5 hg5 hb5 ha6 HSV HE0 HR0)
          | (at_builtin; go_loud (refine wp_appendK _ rfl (.tmp 22) (.tmp 29) 22 TB rfl Tryz.underlying22 hi0 hz0 hz1 hz2 rfl w.heap.size A c 1 w5.heap.size xs (.slice A1 d.length c1) rfl rfl HSV2.out HL6.out rfl (by omega) (by omega) hs6 ?_)))
        intro ys m g8 c8 w8 hys hm8 ho8 hk8 hg8 hat8
        have HR8 : Hid (RowsB w8 w.heap.size (some ⟨g8, 0, none⟩) c8 (Y ++ [(d, A1, c1)])) := Lib.hid (HR6.out.add HO6.out hg8 (by rw [← HXS.out]; exact ho8))
        have HB8 : Hid (Below w.heap.size w w8) := Lib.hid (Mods.old (HB.out.trans (HB6.out.mono HB.out.size)) (Mods.of_grown (S := fun x => A.map (·.block) = some x) hg8 (fun _ h => h)) hs6 (fun i _ h => (HR6.out.rv.blk_lt i h).1))
        have HY8 : Hid ((Y ++ [(d, A1, c1)]).map Prod.fst = (L.take (k + 1)).map (·.2.2)) := Lib.hid (by rw [HYN.out, List.map_append, HD.out]; rfl)
        have hm9 : m = (Y ++ [(d, A1, c1)]).length := by rw [hm8, List.length_append, hxl]; rfl
        subst hm9
        clear hys hk8 ho8 hg8 hat8 HR6 HO6 HB6 HL6 HSV2 HXS HD HYN HR HB HB5 HA0 HOK hm8
        go_wp2_with fail
        go_roundw
        case rel => exact ⟨k + 1, _, _, _, by omega, by go_num, rfl, by rw [List.map_take], HY8, HR8, HB8⟩
        case measure => simp [intOf]; omega
    · obtain rfl : k = L.length := by omega
      have HF : Hid (WholeE w.heap.size w (L.map (·.2.2)) (.returned (.tuple #[.slice A Y.length c, .bool ((L.map (·.2.2)).all fun r => decide (r.length ≤ 65520))])) wr) := Lib.hid (by
        have h := HY.out
        rw [List.take_length] at h
        exact ⟨A, c, Y, rfl, h, HR.out, HB.out⟩)
      rw [List.take_length]
      generalize ((L.map (·.2.2)).all fun r => decide (r.length ≤ 65520)) = ok at *
      clear HX HY HR HB
      go_wp2_with fail
      go_ret2
      exact HF.out
end
end Go.Proofs.YtjgonfnpfbifjaaGreatDoor
/- The law's alike: a log and a model that hold the same. -/
namespace Go.Proofs.YtjgonfnpfbifjaaGreatDoor
open Go.RowKit

abbrev TM5 : TypeId := 40
section
variable {B p g sc rc mb : Nat} {S F : Nat → Prop} {w w' : World} {l : Lg} {D : DSt} {Z : List (Sg × Pl)} {Y : List (List UInt8 × Option Addr × Nat)} {SA RA : Option Addr}
theorem lawNext (f n c : Nat) (X : Option Addr) (su : Value) (hb : Blk w mb TM5 #[.int .u64 (f : Int), .slice X n c, su]) (hf : f + n < 9223372036854775808) :
    Calls Tryz.prog 38 #[.pointer (some ⟨mb, 0, none⟩)] w fun e w' => e = .returned (.int .u64 ((f + n : Nat) : Int)) ∧ ∃ m, w' = w.drewN m := by
  have c0 := hb.cell 0 rfl
  have c1 := hb.cell 1 rfl
  have hw2 : IntKind.u64.wrap (n : Int) = (n : Int) := IntWalk.u64_in _ (by omega)
  have hw3 : IntKind.u64.wrap ((f : Int) + (n : Int)) = ((f + n : Nat) : Int) := by rw [IntWalk.u64_in _ (by omega)]; omega
  clear hb
  go_enter Tryz.func38, Tryz.ntmps38
  go_wp2_with fail
  go_quiet (fail)
  go_wp2_with fail
  go_ret
  exact ⟨rfl, _, rfl⟩
set_option maxRecDepth 20000 in
set_option maxHeartbeats 4000000 in
theorem lawAlike (h : LX B S F w p g l D Z Y SA sc RA rc) (hd : l.down = false) (X : Option Addr) (cx : Nat) (L : List (Option Addr × Nat × List UInt8)) (su : Value) (hb : Blk w mb TM5 #[.int .u64 (l.first : Int), .slice X L.length cx, su]) (hX : RBB w X L) (hL : L.map (·.2.2) = l.recs) (h1 : 1 ≤ l.first)
    (hn : l.next < 9223372036854775808) (hr : ∀ r ∈ l.recs, r.length ≤ 100000) :
    Calls Tryz.prog 13 #[.pointer (some ⟨p, 0, none⟩), .pointer (some ⟨mb, 0, none⟩)] w fun e w' => e = .returned (.bool true) ∧ Below w.heap.size w w' := by
  have hll : L.length = l.recs.length := by rw [← hL, List.length_map]
  have hnx0 : l.next = l.first + L.length := by rw [hll]; rfl
  obtain ⟨nx, hnx⟩ : ∃ nx, nx = l.first + L.length := ⟨_, rfl⟩
  obtain ⟨ff, hff⟩ : ∃ ff, ff = l.first := ⟨_, rfl⟩
  have HX := Lib.hid h
  have HM := Lib.hid hb
  have HXX := Lib.hid hX
  have HL := Lib.hid hL
  have HD := Lib.hid hd
  have HR := Lib.hid hr
  have FI : Hid (∀ v, Below w.heap.size w v → Calls Tryz.prog 16 #[.pointer (some ⟨p, 0, none⟩)] v fun e w' => e = .returned (.int .u64 (ff : Int)) ∧ v = w') := Lib.hid (fun v hv => by rw [hff]; exact walFirst (h.blk.kept hv) l.first rfl)
  have NX : Hid (∀ v, Below w.heap.size w v → Calls Tryz.prog 14 #[.pointer (some ⟨p, 0, none⟩)] v fun e w' => e = .returned (.int .u64 (nx : Int)) ∧ ∃ m, w' = v.drewN m) := Lib.hid (fun v hv => by
    rw [hnx, hll]; exact walNext (h.blk.kept hv) l.first l.recs.length rc RA rfl rfl hn)
  have MX : Hid (∀ v, Below w.heap.size w v → Calls Tryz.prog 38 #[.pointer (some ⟨mb, 0, none⟩)] v fun e w' => e = .returned (.int .u64 (nx : Int)) ∧ ∃ m, w' = v.drewN m) := Lib.hid (fun v hv => by rw [hnx]; exact lawNext l.first L.length cx X su (hb.kept hv) (by omega))
  have hg1 : ¬ (nx : Int) < (ff : Int) := by omega
  have hg3 : ¬ nx < ff := by omega
  have c0 : w.cell? ⟨mb, 0, none⟩ = some (.int .u64 (ff : Int)) := by rw [hff]; exact hb.cell 0 rfl
  have HN := Lib.hid (And.intro hnx (And.intro hff (And.intro hll hnx0)))
  clear h hb hX hL hd hr hnx hff hll hnx0
  go_enter Tryz.func13, Tryz.ntmps13
  go_wp2_with fail
  go_quiet (first
    | (go_at_call 16; exact Calls.quiet_of ((FI.out _ (belowDrewN (Below.refl _ _) _)).mono (fun e w' h => ⟨h.1, 0, h.2.symm⟩)))
    | (go_at_call 14; exact Calls.quiet_of (NX.out _ (belowDrewN (Below.refl _ _) _)))
    | (go_at_call 38; exact Calls.quiet_of (MX.out _ (belowDrewN (Below.refl _ _) _))))
  have RDX : Hid (∀ v, Below w.heap.size w v → ∀ i : Nat, i < 18446744073709551616 → Calls Tryz.prog 18 #[.pointer (some ⟨p, 0, none⟩), .int .u64 (i : Int)] v (WReadEnd (readW l i).1 (readW l i).2 v)) := Lib.hid (fun v hv i hi => walRead (HX.out.below hv) i hi hn HR.out)
  have hnb : nx < 9223372036854775808 := by have h1 := HN.out.1; have h2 := HN.out.2.1; have h3 := HN.out.2.2.2; omega
  have hfn : ff ≤ nx := by have h1 := HN.out.1; have h2 := HN.out.2.1; omega
  have hf1 : 1 ≤ ff := by have h2 := HN.out.2.1; omega
  have c1 : w.cell? ⟨mb, 1, none⟩ = some (.slice X L.length cx) := HM.out.cell 1 rfl
  have HC := Lib.hid (And.intro c0 c1)
  have HB0 := Lib.hid (belowDrewN (Below.refl w.heap.size w) nq)
  clear c0 c1 hg1 hg3 h1 hn
  generalize w.drewN nq = w1 at *
  go_wp2_with (go_at_call 16; refine (FI.out _ HB0.out).mono ?_)
  first | rintro e w2 ⟨rfl, rfl⟩ | rintro e w2 rfl rfl
  go_wp2_with fail
  go_loopw [5] (fun s5 wr => ∃ i : Nat, ff ≤ i ∧ i ≤ nx ∧ s5 = .int .u64 (i : Int) ∧ Hid (Below w.heap.size w wr)) (fun s5 _ => nx - (intOf s5).toNat)
  case atStart => exact ⟨ff, Nat.le_refl _, hfn, rfl, HB0⟩
  case round =>
    obtain ⟨i, hi1, hi2, rfl, HBR⟩ := hrel
    go_wp2_with (go_at_call 14; refine (NX.out _ HBR.out).mono ?_)
    first | rintro e w2 rfl m2 rfl | rintro e w2 ⟨rfl, m2, rfl⟩
    have HB2 := Lib.hid (belowDrewN HBR.out m2)
    generalize wr.drewN m2 = w2 at *
    by_cases hlt : i < nx
    · have hltI : (i : Int) < (nx : Int) := by omega
      obtain ⟨j, hj⟩ : ∃ j, j = i - ff := ⟨_, rfl⟩
      have hjl : j < L.length := by have h1 := HN.out.1; have h2 := HN.out.2.1; omega
      have hrd : readW l i = (L[j].2.2, 0) := by
        have h2 := HN.out.2.1
        have h3 := HN.out.2.2.2
        have h4 := HN.out.1
        unfold readW
        rw [if_neg (by rw [HD.out]; simp), if_neg (by omega), if_neg (by omega)]
        congr 1
        have e : i - l.first = j := by omega
        rw [e, ← HL.out]
        simp [hjl]
      have RD := Lib.hid (by have := RDX.out _ HB2.out i (by omega); rw [hrd] at this; exact this)
      have hjI : (j : Int) < (L.length : Int) := by omega
      have hjI0 : (0 : Int) ≤ (j : Int) := by omega
      have hw : IntKind.u64.wrap ((i : Int) - (ff : Int)) = (j : Int) := by rw [IntWalk.u64_in _ (by omega)]; omega
      have hw1 : IntKind.u64.wrap ((i : Int) + 1) = ((i + 1 : Nat) : Int) := by rw [IntWalk.u64_in _ (by omega)]; omega
      clear hrd hj
      go_wp2_with (go_at_call 18; refine RD.out.mono ?_)
      rintro e w3 ⟨A, c, n, rfl, rfl, ho, hb3⟩
      have HB3 := Lib.hid (HB2.out.trans (hb3.mono HB2.out.size))
      obtain ⟨xb, off, rfl, hbl, hc⟩ := (HXX.out.below HB3.out).cell hjl
      have hrb := ((HXX.out.below HB3.out).each L[j] (List.getElem_mem hjl)).1
      have c0 : w3.cell? ⟨mb, 0, none⟩ = some (.int .u64 (ff : Int)) := (HB3.out.cell (p := ⟨mb, _, none⟩) HM.out.lt).trans HC.out.1
      have c1 : w3.cell? ⟨mb, 1, none⟩ = some (.slice (some ⟨xb, off, none⟩) L.length cx) := (HB3.out.cell (p := ⟨mb, _, none⟩) HM.out.lt).trans HC.out.2
      generalize L[j] = y at *
      obtain ⟨A0, c0', r⟩ := y
      simp only at hc hrb ho
      have k1 : ∀ n, (convert 33 9 (.slice A r.length c)).run Tryz.prog (w3.drewN n) = .ok (.string ⟨r.toArray⟩) (w3.drewN n) := fun n => convB c (ho.rb.below (belowDrewN (Below.refl _ _) n))
      have k2 : ∀ n, (convert 33 9 (.slice A0 r.length c0')).run Tryz.prog (w3.drewN n) = .ok (.string ⟨r.toArray⟩) (w3.drewN n) := fun n => convB c0' (hrb.below (belowDrewN (Below.refl _ _) n))
      clear ho hb3 hrb RD HBR HB2
      go_wp2_with fail
      go_quiet (fail)
      go_wp2_with fail
      go_roundw
      case rel => exact ⟨i + 1, by omega, by omega, by go_num, Lib.hid (belowDrewN HB3.out _)⟩
      case measure => simp [intOf]; omega
    · obtain rfl : i = nx := by omega
      have hltI : ¬ (i : Int) < (i : Int) := by omega
      have hr1 : readW l i = ([], 8) := by
        have h2 := HN.out.2.1
        have h3 := HN.out.2.2.2
        have h4 := HN.out.1
        unfold readW
        rw [if_neg (by rw [HD.out]; simp), if_neg (by omega), if_pos (by omega)]
      have hr2 : readW l (ff - 1) = ([], 13) := by
        have h2 := HN.out.2.1
        unfold readW
        rw [if_neg (by rw [HD.out]; simp), if_pos (by omega)]
      have R1 : Hid (∀ v, Below w.heap.size w v → Calls Tryz.prog 18 #[.pointer (some ⟨p, 0, none⟩), .int .u64 (i : Int)] v (WReadEnd [] 8 v)) := Lib.hid (fun v hv => by have := RDX.out v hv i (by omega); rw [hr1] at this; exact this)
      have R2 : Hid (∀ v, Below w.heap.size w v → Calls Tryz.prog 18 #[.pointer (some ⟨p, 0, none⟩), .int .u64 ((ff - 1 : Nat) : Int)] v (WReadEnd [] 13 v)) := Lib.hid (fun v hv => by have := RDX.out v hv (ff - 1) (by omega); rw [hr2] at this; exact this)
      obtain ⟨fm, hfm⟩ : ∃ fm, fm = ff - 1 := ⟨_, rfl⟩
      rw [← hfm] at R2
      have hw : IntKind.u64.wrap ((ff : Int) - 1) = (fm : Int) := by rw [IntWalk.u64_in _ (by omega)]; omega
      clear hr1 hr2 hfm RDX
      go_wp2_with (go_at_call 14; refine (NX.out _ HB2.out).mono ?_)
      first | rintro e w3 rfl m3 rfl | rintro e w3 ⟨rfl, m3, rfl⟩
      have HB3 := Lib.hid (belowDrewN HB2.out m3)
      generalize w2.drewN m3 = w3 at *
      go_wp2_with (go_at_call 18; refine (R1.out _ HB3.out).mono ?_)
      rintro e w4 ⟨A, c, n, rfl, rfl, ho, hb4⟩
      have HB4 := Lib.hid (HB3.out.trans (hb4.mono HB3.out.size))
      clear ho hb4
      go_wp2_with (go_at_call 16; refine (FI.out _ HB4.out).mono ?_)
      first | rintro e w5 ⟨rfl, rfl⟩ | rintro e w5 rfl rfl
      go_wp2_with (go_at_call 18; refine (R2.out _ HB4.out).mono ?_)
      rintro e w6 ⟨A2, c2, n2, rfl, rfl, ho2, hb6⟩
      have HB6 := Lib.hid (HB4.out.trans (hb6.mono HB4.out.size))
      clear ho2 hb6
      go_wp2_with fail
      go_ret
      exact ⟨rfl, HB6.out⟩
end
end Go.Proofs.YtjgonfnpfbifjaaGreatDoor
