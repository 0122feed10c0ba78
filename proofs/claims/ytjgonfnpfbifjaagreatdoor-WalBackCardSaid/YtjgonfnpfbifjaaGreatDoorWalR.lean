/- WalR: put together by merge.py of: WalP, WalQ. -/
import Derived.Test.YtjgonfnpfbifjaaGreatDoorWalI
import Derived.Test.YtjgonfnpfbifjaaGreatDoorWalS
import Derived.Test.YtjgonfnpfbifjaaGreatDoorWalF
/- Package wal's Open on a disk of one file, whose records are all good. -/
namespace Go.Proofs.YtjgonfnpfbifjaaGreatDoor
open Go.RowKit

theorem found_info : (Tryz.prog.info? TF).map (fun i => (i.zero, i.size, i.bytes)) = some (some (.agg #[.string ⟨#[]⟩, .int .u64 0, .int .u64 0]), 3, 32) := by kernel_rfl
section
variable {B g : Nat} {S : Nat → Prop} {w w' : World} {D : DSt}
theorem openW_one {na : Nm} {era n : Nat} (hnm : namesD D = [na]) (hpa : partsN na = some (era, n)) : openW D = loadF [⟨na, era, n⟩] { lg0 with era := era } true D := by
  unfold openW
  rw [hnm]
  have h1 : foundL [na] = [⟨na, era, n⟩] := by simp [foundL, hpa]
  rw [h1]
  have h2 : eraL [⟨na, era, n⟩] = era := by simp [eraL]
  rw [h2]
  rfl
/-- Where Open stands behind its one file's name. -/
structure OpAt (B : Nat) (S : Nat → Prop) (w : World) (g : Nat) (na : Nm) (era n : Nat) (D : DSt) (xb : Nat) (wr : World) : Prop where
  lx : LX B S (· = w.heap.size) wr w.heap.size g { lg0 with era := era } D [] [] none 0 none 0
  lt : xb < wr.heap.size
  d0 : wr.cell? ⟨xb, 0, none⟩ = some (.string ⟨na.toArray⟩)
  d1 : wr.cell? ⟨xb, 1, none⟩ = some (.int .u64 (era : Int))
  d2 : wr.cell? ⟨xb, 2, none⟩ = some (.int .u64 (n : Int))
  bel : Below w.heap.size w wr
set_option maxRecDepth 20000 in
set_option maxHeartbeats 8000000 in
theorem walOpen1 (h : DI S w g D) (hd : D.down = false) (na : Nm) (era n : Nat) (hnm : namesD D = [na]) (hpa : partsN na = some (era, n)) (hna : na.length ≤ 1000) (hok : nameOk na = true) (he : era ≤ 1000000000000) (hn : n ≤ 1000000000000)
    (b : List UInt8) (hb : fget D.files na = some b) (hbl : b.length ≤ 100000000) (hst : stopF D ⟨na, era, n⟩ = b.length) (hB : B ≤ w.heap.size) (hS : ∀ b, S b → B ≤ b) (hE : WEnv B w) (hcnt : D.cnt ≤ 1000) (hfn : ∀ q ∈ D.files, q.1.length ≤ 9223372036854775807) :
    Calls Tryz.prog 7 #[.pointer (some ⟨g, 0, none⟩)] w (OpenE B S w g (openW D)) := by
  rw [openW_one hnm hpa]
  obtain ⟨q, hq⟩ : ∃ q, q = loadF [⟨na, era, n⟩] { lg0 with era := era } true D := ⟨_, rfl⟩
  rw [← hq]
  have HQ := Lib.hid hq
  clear hq
  have DN := Lib.hid (diskDownC h)
  rw [hd] at DN
  obtain ⟨w2, hw2⟩ : ∃ w2, w2 = w.alloc (.cells #[.pointer (some ⟨g, 0, none⟩), .int .u64 0, .slice none 0 0, .slice none 0 0, .int .u64 1, .bool false] TL) := ⟨_, rfl⟩
  have hb2 : Below w.heap.size w w2 := by rw [hw2]; exact (Below.refl _ _).alloc (Nat.le_refl _) _
  have hp2 : Blk w2 w.heap.size TL #[.pointer (some ⟨g, 0, none⟩), .int .u64 0, .slice none 0 0, .slice none 0 0, .int .u64 1, .bool false] := by rw [hw2]; exact Blk.new w _ TL
  have NM := Lib.hid (diskNamesC (h.below hb2) (Nat.le_trans hcnt (by decide)) hfn)
  rw [hnm] at NM
  have HD := Lib.hid h
  have HS := Lib.hid hS
  have HE := Lib.hid hE
  have HP := Lib.hid hp2
  have HB2 := Lib.hid hb2
  have HW2 := Lib.hid hw2
  have HP2 := Lib.hid hpa
  have HF1 := Lib.hid (And.intro hb (And.intro hok (And.intro hst hd)))
  have hsz2 : w2.heap.size = w.heap.size + 1 := by rw [hw2]; simp
  rw [hw2] at NM
  clear h hS hE hp2 hb2 hw2 hd hnm hpa hb hok hst hfn
  go_enter Tryz.func7, Tryz.ntmps7
  go_wp2_with (first
    | (go_at_call 20; refine DN.out.mono ?_; first | rintro e w1 ⟨rfl, rfl⟩ | rintro e w1 rfl rfl)
    | (go_at_call 21; refine NM.out.mono ?_))
  rw [← HW2.out]
  rintro e w3 ⟨A, cA, rfl, hoA, hb3⟩
  have hL3 : LX B S (· = w.heap.size) w3 w.heap.size g lg0 D [] [] none 0 none 0 := (LX.fresh (p := w.heap.size) (HD.out.below HB2.out) HP.out hB (fun hs => by have := HD.out.bnd _ hs; omega) HS.out).below hb3
  have hB3 := HB2.out.trans (hb3.mono HB2.out.size)
  have hs3 : w.heap.size ≤ w3.heap.size := hB3.size
  have hA := hoA.rv.cell (j := 0) (by simp)
  obtain ⟨xa, off, rfl, hbl2, hc⟩ := hA
  simp only [List.getElem_map, List.getElem_cons_zero, Nat.add_zero, encStr] at hc
  have HC := Lib.hid hc
  have HL3 := Lib.hid hL3
  have HB3 := Lib.hid hB3
  have HOA := Lib.hid hoA
  have hlt3 : w.heap.size < w3.heap.size := Nat.lt_of_lt_of_le (by omega) hb3.size
  clear NM hc hL3 hB3 hoA hb3 HP HB2 HW2 HD HS
  go_wp2_with fail
  go_loopw [5, 22] (fun s5 s22 wr => (s5 = .slice none 0 0 ∧ s22 = .int .i64 0 ∧ wr = w3) ∨ (s22 = .int .i64 1 ∧ ∃ xb cx, s5 = .slice (some ⟨xb, 0, none⟩) 1 cx ∧ Hid (OpAt B S w g na era n D xb wr))) (fun _ s22 _ => 1 - (intOf s22).toNat)
  case atStart => exact .inl ⟨rfl, rfl, by first | rfl | trivial⟩
  case round =>
    obtain ⟨rfl, rfl, rfl⟩ | ⟨rfl, xb, cx, rfl, HO⟩ := hrel
    · obtain ⟨i0, hi0, hz0, hz1, hz2⟩ := info_parts found_info
      have PA := Lib.hid (walParts na B wr hna (HE.out.below (HB3.out.mono hB)) (Nat.le_trans hB hs3))
      rw [HP2.out] at PA
      have hc := HC.out
      go_wp2_with (go_at_call 22; refine PA.out.mono ?_)
      rintro e w4 ⟨hb4, x, y, rfl, hxy⟩
      obtain ⟨rfl, rfl⟩ := hxy era n rfl
      have hL5 := Blk.new w4 #[.string ⟨na.toArray⟩, .int .u64 (era : Int), .int .u64 (n : Int)] TF
      have hb5 : Below w4.heap.size w4 (w4.alloc (.cells #[.string ⟨na.toArray⟩, .int .u64 (era : Int), .int .u64 (n : Int)] TF)) := (Below.refl _ _).alloc (Nat.le_refl _) _
      have HL5 := Lib.hid hL5
      have hs5 : B ≤ (w4.alloc (.cells #[.string ⟨na.toArray⟩, .int .u64 (era : Int), .int .u64 (n : Int)] TF)).heap.size := Nat.le_trans (Nat.le_trans hB hs3) (Nat.le_trans hb4.size hb5.size)
      have HL4 := Lib.hid ((HL3.out.below hb4).below hb5)
      have HB5 := Lib.hid (HB3.out.trans ((hb4.trans (hb5.mono hb4.size)).mono hs3))
      clear hL5 hb5 hxy PA hb4 hc HC HL3 HB3 HOA hbl2 hlt3 hs3
      go_wp2_with (at_builtin; refine wp_appendS _ rfl (.tmp 33) (.tmp 38) 57 TF rfl Tryz.underlying57 hi0 hz0 hz1 hz2 rfl (by decide) B none (some ⟨w4.heap.size, 0, none⟩) 0 1 [] [[.string ⟨na.toArray⟩, .int .u64 (era : Int), .int .u64 (n : Int)]] rfl rfl (OR.nil _ _ _ _) (RS.lit HL5.out) (by simp) (by simp [Value.oneCell']) (by simp) (by simp) hs5 ?_)
      intro ys A9 c9 w9 hys hy1 hy2 hrow hg9 hA9
      have hys' : ys = [[.string ⟨na.toArray⟩, .int .u64 (era : Int), .int .u64 (n : Int)]] := hys.out
      subst hys'
      obtain ⟨xb, o9, rfl, hlt9, hrs⟩ := hrow.rs.at_ (by simp)
      have ho9 : o9 = 0 := by
        rcases hrow.form with ⟨e, _, _⟩ | ⟨g', e, _⟩
        · cases e
        · injection e with e; injection e
      subst ho9
      have d0 : w9.cell? ⟨xb, 0, none⟩ = some (.string ⟨na.toArray⟩) := by simpa using hrs 0 _ rfl 0 _ rfl
      have d1 : w9.cell? ⟨xb, 1, none⟩ = some (.int .u64 (era : Int)) := by simpa using hrs 0 _ rfl 1 _ rfl
      have d2 : w9.cell? ⟨xb, 2, none⟩ = some (.int .u64 (n : Int)) := by simpa using hrs 0 _ rfl 2 _ rfl
      have hb9 : Below (w4.alloc (.cells #[.string ⟨na.toArray⟩, .int .u64 (era : Int), .int .u64 (n : Int)] TF)).heap.size (w4.alloc (.cells #[.string ⟨na.toArray⟩, .int .u64 (era : Int), .int .u64 (n : Int)] TF)) w9 := ⟨hg9.os, hg9.tape, hg9.output, hg9.size, fun i hi => hg9.block i hi (fun e => by cases e)⟩
      have HL9 := Lib.hid (HL4.out.below hb9)
      have hs9 := HB5.out.size
      have HB9 := Lib.hid (HB5.out.trans (hb9.mono hs9))
      have HD9 := Lib.hid (And.intro hlt9 (And.intro d0 (And.intro d1 d2)))
      have p1 : w9.cell? ⟨w.heap.size, 1, none⟩ = some (.int .u64 0) := HL9.out.blk.cell 1 rfl
      have r1 : w9.frozen? ⟨w.heap.size, 1, none⟩ = false := HL9.out.blk.free 1
      have hneb : xb ≠ w.heap.size := by
        intro e
        have := (hrow.blk xb rfl)
        obtain ⟨cs, hb⟩ := this
        exact (HL9.out.blk.ne (by exact hb) (by decide)) e.symm
      clear hys hy1 hy2 hrow hg9 hA9 hrs d0 d1 d2 hb9 HL4 HL5 HB5 hs5
      have mp : Mods (· = w.heap.size) w9 (w9.setCell ⟨w.heap.size, 1, none⟩ (.int .u64 (era : Int))) := (Mods.refl (· = w.heap.size) w9).setCell ⟨w.heap.size, _, none⟩ (.inl rfl) _
      have HO : Hid (OpAt B S w g na era n D xb (w9.setCell ⟨w.heap.size, 1, none⟩ (.int .u64 (era : Int)))) := Lib.hid ⟨HL9.out.set 1 _ rfl rfl rfl, Nat.lt_of_lt_of_le hlt9 mp.size, (mp.cell (p := ⟨xb, _, none⟩) hlt9 hneb).trans HD9.out.2.1, (mp.cell (p := ⟨xb, _, none⟩) hlt9 hneb).trans HD9.out.2.2.1, (mp.cell (p := ⟨xb, _, none⟩) hlt9 hneb).trans HD9.out.2.2.2, Mods.old HB9.out mp HB9.out.size (fun i _ e => by rw [e]; exact Nat.le_refl _)⟩
      clear HL9 HD9 HB9 mp hneb
      go_wp2_with fail
      go_roundw
      case rel => exact .inr ⟨by go_num, xb, c9, rfl, HO⟩
      case measure => simp [intOf]
    · have SO : Hid (∀ f w, Calls Tryz.prog 23 #[.slice (some ⟨xb, 0, none⟩) 1 cx, f] w fun e w' => e = .returned (.tuple #[]) ∧ w' = w) := Lib.hid (fun f w => sortOne (some ⟨xb, 0, none⟩) 1 cx f w (by omega))
      have hsr : w.heap.size ≤ wr.heap.size := HO.out.bel.size
      have LO := Lib.hid (walLoad1 HO.out.lx rfl rfl (Nat.le_trans hB hsr) hcnt ⟨na, era, n⟩ rfl hna he hn HF1.out.2.2.2 HF1.out.2.1 b HF1.out.1 hbl HF1.out.2.2.1 xb cx HO.out.lt HO.out.d0 HO.out.d1 HO.out.d2)
      have HBR := Lib.hid HO.out.bel
      rw [← HQ.out] at LO
      clear HL3 HB3 HC HOA HE HP2 HF1 HQ HO
      go_wp2_with (go_at_call 23; refine (SO.out _ _).mono ?_)
      first | rintro e w4 ⟨rfl, rfl⟩ | rintro e w4 rfl rfl
      clear SO
      go_wp2_with (go_at_call 26; refine LO.out.mono ?_)
      rintro e w5 ⟨rfl, S', F', hl, hs', hf', hm⟩
      have HF : Hid (OpenE B S w g q (.returned (.tuple #[if q.1 = 0 then .pointer (some ⟨w.heap.size, 0, none⟩) else .pointer none, .int .i64 q.1])) w5) := Lib.hid ⟨w.heap.size, S', F', rfl, hl, fun b hb => (hs' b hb).imp id (fun h => by omega), fun b hb => (hf' b hb).elim (fun e => by rw [e]; exact Nat.le_refl _) (fun h => by omega), (Mods.of_below HBR.out).trans hm (fun i hi => hi.elim .inl (fun e => .inr (by rw [e]; exact Nat.le_refl _)))⟩
      clear LO hl hs' hf' hm HBR
      by_cases hq0 : q.1 = 0
      · have hqb : (q.1 == 0) = true := by simpa using hq0
        rw [if_pos hq0] at HF
        go_wp2_with fail
        go_ret2
        rw [hq0] at HF
        exact HF.out
      · have hqb : (q.1 == 0) = false := by simpa using hq0
        rw [if_neg hq0] at HF
        go_wp2_with fail
        go_ret2
        exact HF.out
end
end Go.Proofs.YtjgonfnpfbifjaaGreatDoor
/- Plain: Append on a log of one segment that was opened anew. -/
namespace Go.Proofs.YtjgonfnpfbifjaaGreatDoor
open Go.Lib

theorem nameOk_wal {e n : Nat} (h : (decDigits e).length + (decDigits n).length ≤ 28) : nameOk (walName e n) = true := by
  unfold nameOk walName
  rw [Bool.and_eq_true, decide_eq_true_eq, List.all_eq_true]
  refine ⟨by simp only [List.length_append, List.length_cons, List.length_nil]; omega, fun c hc => ?_⟩
  simp only [List.append_assoc, List.mem_append, List.mem_cons, List.not_mem_nil, or_false] at hc
  rcases hc with (rfl | rfl) | hc | rfl | hc
  · decide
  · decide
  · exact set_of_range (.inr (dec_range e c hc))
  · decide
  · exact set_of_range (.inr (dec_range n c hc))
theorem recsB_len2 : ∀ (L : List (List UInt8)) (n : Nat), (recsB n L).length ≤ (L.map List.length).sum + 17 * L.length
  | [], n => by simp [recsB]
  | r :: t, n => by
    have h1 := recB_len n r
    have h2 := recsB_len2 t (n + 1)
    rw [recsB, List.length_append]
    simp only [List.map_cons, List.sum_cons, List.length_cons]
    omega
theorem refuse_room {D : DSt} {f : Nm} {x : List UInt8} {off : Nat} (hd : D.down = false) (hn : nameOk f = true) (ho : off ≤ 4194304) (hl : D.files.length < 4096)
    (hr : (fsize D.files : Int) + ((max ((fget D.files f).getD []).length (off + x.length) : Nat) - ((fget D.files f).getD []).length : Int) ≤ D.room) : refuseD D ⟨1, f, off, x⟩ (off : Int) = 0 := by
  unfold refuseD
  rw [if_neg (by rw [hd]; simp), if_neg (by rw [hn]; simp; omega), if_neg (by omega), if_neg]
  simp only [afterN, ↓reduceIte]
  rintro ⟨_, h2⟩
  omega
theorem putW_idle {D : DSt} {f : Nm} {x : List UInt8} {off : Nat} (hd : D.down = false) (hf : D.fuse = 0) (hr : refuseD D ⟨1, f, off, x⟩ (off : Int) = 0) : putW D f off x = (0, { D with unsure := D.unsure ++ [⟨1, f, off, x⟩] }) := by
  have hb : burnD D = D := by unfold burnD; rw [if_neg (by omega)]
  unfold putW changeD
  rw [if_neg (by rw [hr]; simp), hb, if_neg (by rw [hd]; simp)]
theorem lgB_stop (x : List (List UInt8)) : Sg.stop ⟨walName 0 1, 1, 0 :: marksB 0 1 x⟩ = (recsB 1 x).length := by
  have := marksB_last x 0 1
  unfold Sg.stop
  rw [this]; omega
/-- What Append comes to on such a log. -/
theorem appendW_C (r : Int) (x y : List (List UInt8)) (hy : ∀ z ∈ y, z.length ≤ 65520) (hs : ((recsB 1 x).length : Int) + (recsB (1 + x.length) y).length ≤ r) (hr : r ≤ 4194304) (hx : x.length ≤ 1000) :
    (appendW (lgB x) (dskB r (recsB 1 x)) y).1 = 0 ∧ (appendW (lgB x) (dskB r (recsB 1 x)) y).2.1.recs = x ++ y ∧ (appendW (lgB x) (dskB r (recsB 1 x)) y).2.1.first = 1 ∧ (appendW (lgB x) (dskB r (recsB 1 x)) y).2.1.down = false := by
  by_cases hyn : y = []
  · subst hyn
    unfold appendW
    rw [if_neg (by simp [lgB]), if_neg (by simp), if_pos rfl]
    exact ⟨rfl, by simp [lgB], rfl, rfl⟩
  · have hany : ¬ (y.any fun r => decide (65520 < r.length)) = true := by
      rw [List.any_eq_true]
      rintro ⟨z, hz, h2⟩
      have := hy z hz
      simp at h2; omega
    have hnx : (lgB x).next = 1 + x.length := rfl
    have hto : ((lgB x).to.name = walName 0 1 ∧ (lgB x).to.stop = (recsB 1 x).length) ∨ ((lgB x).to.name = walName 0 (1 + x.length) ∧ (lgB x).to.stop = 0) := by
      unfold Lg.to
      simp only [lgB, List.getLast?_singleton]
      split
      · exact .inl ⟨rfl, lgB_stop x⟩
      · exact .inr ⟨rfl, rfl⟩
    have hfs : fsize (dskB r (recsB 1 x)).files = (recsB 1 x).length := by simp [dskB, DSt.files, fsize]
    have hfl : (dskB r (recsB 1 x)).files.length < 4096 := by simp [dskB, DSt.files]
    have hok : nameOk (walName 0 (1 + x.length)) = true := by
      refine nameOk_wal ?_
      have h2 := nDigits_le (u := 1 + x.length) (by omega)
      have h3 : (decDigits 0).length = 1 := by rw [decDigits]; simp
      rw [h3, decDigits_length]
      omega
    have hp : refuseD (dskB r (recsB 1 x)) ⟨1, (lgB x).to.name, (lgB x).to.stop, recsB (lgB x).next y⟩ ((lgB x).to.stop : Int) = 0 := by
      have hroom : (dskB r (recsB 1 x)).room = r := rfl
      rcases hto with ⟨h1, h2⟩ | ⟨h1, h2⟩
      · rw [h1, h2, hnx]
        refine refuse_room rfl nameOk_one (by omega) hfl ?_
        rw [hfs, fgetB, hroom]
        simp only [Option.getD_some]
        omega
      · rw [h1, h2, hnx]
        refine refuse_room rfl hok (by omega) hfl ?_
        rw [hfs, hroom]
        omega
    have hpw := putW_idle (D := dskB r (recsB 1 x)) rfl rfl hp
    unfold appendW
    rw [if_neg (by simp [lgB]), if_neg hany, if_neg hyn, if_neg (by rw [hpw]; simp)]
    exact ⟨rfl, rfl, rfl, rfl⟩
/-- A row of records that were read back is fine. -/
theorem lgB_fine (x : List (List UInt8)) (h : ∀ z ∈ x, z.length ≤ 65520) (hx : x.length ≤ 1000) : (lgB x).fine := by
  have hml : ∀ (L : List (List UInt8)) (i n : Nat), (marksB i n L).length = L.length := by
    intro L
    induction L with
    | nil => intro i n; rfl
    | cons a t ih => intro i n; rw [marksB, List.length_cons, ih, List.length_cons]
  refine ⟨fun s hs => ?_, ?_, by show (0 : Nat) ≤ _; omega, by show (1 : Nat) ≤ _; omega, by show x.length ≤ _; omega, fun z hz => by have := h z hz; omega⟩
  · have : s = ⟨walName 0 1, 1, 0 :: marksB 0 1 x⟩ := by simpa [lgB] using hs
    subst this
    refine ⟨?_, by simp only [List.length_cons, hml]; omega, by show (walName 0 1).length ≤ 1000; rw [walName_one]; decide, by show (1 : Nat) ≤ _; omega⟩
    rw [lgB_stop]
    have := recsB_len x 1 h
    omega
  · show 1 + x.length ≤ _; omega
end Go.Proofs.YtjgonfnpfbifjaaGreatDoor
