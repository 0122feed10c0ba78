/- The law's look: whatever place, both posts have the same there. -/
import Derived.Test.YtihmnkkhccihpaaPostI
import Derived.Test.YtihmnkkhccihpaaConv
namespace Go.Proofs.Ytihmnkkhccihpaa
open Go.RowKit

section
variable {n N : Nat} {w : World} {g g2 : Nat} {V : List Val} {C : Int × Int → Bool} {room room2 : Int}
set_option maxRecDepth 20000 in
set_option maxHeartbeats 2000000 in
theorem lawLook_out (i : Int) (h : PI n w g V C room) (k : RI n w g2 V C room2 N) (hn : n ≤ w.heap.size) (hi : -9223372036854775808 ≤ i ∧ i ≤ 9223372036854775807) (hr : i < 0 ∨ (V.length : Int) ≤ i) :
    Calls Try.prog 29 #[.pointer (some ⟨g, 0, none⟩), .pointer (some ⟨g2, 0, none⟩), .int .i64 i, .bool false] w fun e w' => e = .returned (.bool true) ∧ Below w.heap.size w w' := by
  have hat : atV V i = ((0, 0, []), 8) := by rw [atV, if_neg (by omega)]
  have L := postLookI i h hi
  rw [hat] at L
  have HL := Lib.hid L
  have hv := k.len
  obtain ⟨R, A, cap, Cs, B, capB, h1, _, hV, _⟩ := k
  have hRV : R.length = V.length := by rw [← hV, List.length_map]
  have hr' : i < 0 ∨ (R.length : Int) ≤ i := by omega
  have H1 := Lib.hid h1
  have hrl := h1.fits.1
  clear h hat L hV h1 hRV
  by_cases h0 : i < 0
  · go_enter Try.func29, Try.ntmps29
    go_wp2_with fail
    refine HL.out.mono ?_
    rintro e w2 ⟨D, c, d, rfl, hd, hd2, ho, hb⟩
    have hd' := hd.out
    subst hd'
    go_wp2_with fail
    go_ret
    exact ⟨rfl, hb⟩
  · have h0' : (R.length : Int) ≤ i := by omega
    go_enter Try.func29, Try.ntmps29
    go_wp2_with fail
    refine HL.out.mono ?_
    rintro e w2 ⟨D, c, d, rfl, hd, hd2, ho, hb⟩
    have hd' := hd.out
    subst hd'
    have c1 := (H1.out.below hb).blk.cell 1 rfl
    go_wp2_with fail
    go_ret
    exact ⟨rfl, hb⟩

set_option maxRecDepth 20000 in
set_option maxHeartbeats 2000000 in
theorem lawLook_in (i : Nat) (h : PI n w g V C room) (k : RI n w g2 V C room2 N) (hn : n ≤ w.heap.size) (hi : i < V.length) :
    Calls Try.prog 29 #[.pointer (some ⟨g, 0, none⟩), .pointer (some ⟨g2, 0, none⟩), .int .i64 (i : Int), .bool false] w fun e w' => e = .returned (.bool true) ∧ Below w.heap.size w w' := by
  have hv := k.len
  have hat : atV V (i : Int) = (V.getD i (0, 0, []), 0) := by rw [atV, if_pos (by omega), Int.toNat_natCast]
  have L := postLookI (i : Int) h (by omega)
  rw [hat] at L
  obtain ⟨R, A, cap, Cs, B, capB, h1, _, hV, _⟩ := k
  have hRV : R.length = V.length := by rw [← hV, List.length_map]
  have hiR : i < R.length := by omega
  have hgd : V.getD i (0, 0, []) = (R[i].f, R[i].t, R[i].d) := by rw [← hV]; simp [Ltr.val, hiR]
  rw [hgd] at L
  have HL := Lib.hid L
  have H1 := Lib.hid h1
  have hrl := h1.fits.1
  have hdat := (h1.data _ (List.getElem_mem hiR)).1
  have HROW : Hid (∀ w', Below w.heap.size w w' → ∃ b off, A = some ⟨b, off, none⟩ ∧ w'.cell? ⟨b, off + i * 3, none⟩ = some (.int .i64 R[i].f) ∧ w'.cell? ⟨b, off + i * 3 + 1, none⟩ = some (.int .i64 R[i].t) ∧ w'.cell? ⟨b, off + i * 3 + 2, none⟩ = some (.slice R[i].A R[i].d.length R[i].c)) := Lib.hid (fun w' hw' => by
    obtain ⟨b, off, e, _, hc⟩ := (h1.below hw').row.rs.row (i := i) (by simpa using hiR)
    exact ⟨b, off, e, by simpa using hc 0 (.int .i64 R[i].f) (by simp [Ltr.cells]), hc 1 (.int .i64 R[i].t) (by simp [Ltr.cells]), hc 2 (.slice R[i].A R[i].d.length R[i].c) (by simp [Ltr.cells])⟩)
  generalize R[i].f = f at *
  generalize R[i].t = t at *
  generalize R[i].A = DA at *
  generalize R[i].c = dc at *
  generalize R[i].d = d at *
  have h0 : ¬ (i : Int) < 0 := by omega
  clear h hat L hV h1 hRV hgd hi hv
  go_enter Try.func29, Try.ntmps29
  go_wp2_with fail
  refine HL.out.mono ?_
  rintro e w2 ⟨D, c, d', rfl, hd, hd2, ho, hb⟩
  have hd' := hd.out
  subst hd'
  have c1 := (H1.out.below hb).blk.cell 1 rfl
  obtain ⟨b, off, rfl, r0, r1, r2⟩ := HROW.out w2 hb
  have hb3 : Below w2.heap.size w2 (w2.alloc (.cells #[.int .i64 f, .int .i64 t, .slice DA d'.length dc] 68)) := (Below.refl _ _).alloc (Nat.le_refl _) _
  have hc1 : (convert 33 9 (.slice D d'.length c)).run Try.prog (w2.alloc (.cells #[.int .i64 f, .int .i64 t, .slice DA d'.length dc] 68)) = .ok (.string ⟨d'.toArray⟩) (w2.alloc (.cells #[.int .i64 f, .int .i64 t, .slice DA d'.length dc] 68)) := convB c (ho.rb.below hb3)
  have hc2 : (convert 33 9 (.slice DA d'.length dc)).run Try.prog (w2.alloc (.cells #[.int .i64 f, .int .i64 t, .slice DA d'.length dc] 68)) = .ok (.string ⟨d'.toArray⟩) (w2.alloc (.cells #[.int .i64 f, .int .i64 t, .slice DA d'.length dc] 68)) := convB dc (hdat.rb.below (hb.trans (hb3.mono hb.size)))
  have HB := Lib.hid (hb.trans (hb3.mono hb.size))
  clear hb hb3 ho hdat
  go_wp2_with fail
  go_ret
  exact ⟨rfl, HB.out⟩

theorem TM.setCell {bad : Obj → Prop} {w a : World} (h : TM bad w a) {p : Addr} (hp : ∀ o, a.heap[p.block]? = some o → bad o) (v : Value) : TM bad w (a.setCell p v) :=
  h.trans ⟨by simp [World.setCell], fun b o hb hn => by
    rw [Below.heap_setCell a p v b (fun e => hn (by subst e; exact hp o hb))]; exact hb⟩
theorem RefR.tm {w w' : World} {R : List Ltr} {A : Option Addr} {cap : Nat} {Cs : List (Int × Int)} {B : Option Addr} {capB : Nat} (h1 : RefR w g R A cap Cs B capB room) (t : TM badP w w') : RefR w' g R A cap Cs B capB room :=
  ⟨h1.blk.tm t (by simp [badP]), h1.row.tm t (by simp [badP]), fun r hr => ⟨(h1.data r hr).1.tm t (by simp [badP]), (h1.data r hr).2⟩, h1.cuts.tm t (by simp [badP]), h1.fits⟩
/-- The reference's list replaced. -/
theorem RefR.setList {w : World} {R R' : List Ltr} {A A' : Option Addr} {cap cap' : Nat} {Cs : List (Int × Int)} {B : Option Addr} {capB : Nat} (h : RefR w g R A cap Cs B capB room) (hrow : OR w 0 68 3 A' cap' (R'.map Ltr.cells)) (hd : ∀ r ∈ R', OB w 0 r.A r.c r.d ∧ r.d.length ≤ 65536) (hl : R'.length ≤ 4096) (m : Nat) (hm : m = R'.length) :
    RefR (w.setCell ⟨g, 1, none⟩ (.slice A' m cap')) g R' A' cap' Cs B capB room := by
  subst hm
  have hk := h.blk.setCell 1 (.slice A' R'.length cap')
  refine ⟨hk, hrow.setCell_ne (p := ⟨g, 1, none⟩) (hrow.ne_var h.blk (by decide)) _, fun r hr => ⟨(hd r hr).1.setCell_ne (p := ⟨g, 1, none⟩) ((hd r hr).1.ne_var h.blk (by decide)) _, (hd r hr).2⟩, h.cuts.setCell_ne (p := ⟨g, 1, none⟩) h.cuts_ne_var _, hl, h.fits.2⟩
/-- The reference's cut ways replaced. -/
theorem RefR.setCuts {w : World} {R : List Ltr} {A : Option Addr} {cap : Nat} {Cs Cs' : List (Int × Int)} {B B' : Option Addr} {capB capB' : Nat} (h : RefR w g R A cap Cs B capB room) (hrow : OR w 0 70 2 B' capB' (Cs'.map pairCells)) (hl : Cs'.length ≤ 4096) (m : Nat) (hm : m = Cs'.length) :
    RefR (w.setCell ⟨g, 2, none⟩ (.slice B' m capB')) g R A cap Cs' B' capB' room := by
  subst hm
  have hk := h.blk.setCell 2 (.slice B' Cs'.length capB')
  refine ⟨hk, h.row.setCell_ne (p := ⟨g, 2, none⟩) h.ne_row _, fun r hr => ⟨(h.data r hr).1.setCell_ne (p := ⟨g, 2, none⟩) ((h.data r hr).1.ne_var h.blk (by decide)) _, (h.data r hr).2⟩, hrow.setCell_ne (p := ⟨g, 2, none⟩) (hrow.ne_var h.blk (by decide)) _, h.fits.1, hl⟩

/-- What a call on both ends in. -/
def BothE (n g g2 : Nat) (V : List Val) (C : Int × Int → Bool) (room room2 : Int) (N : Nat) (w : World) (e : Ending) (w' : World) : Prop :=
  e = .returned (.bool true) ∧ PI n w' g V C room ∧ RI n w' g2 V C room2 N ∧ Below n w w'

set_option maxRecDepth 20000 in
set_option maxHeartbeats 2000000 in
theorem lawTake_out (i : Int) (h : PI n w g V C room) (k : RI n w g2 V C room2 N) (hn : n ≤ w.heap.size) (hi : -9223372036854775808 ≤ i ∧ i ≤ 9223372036854775807) (hr : i < 0 ∨ (V.length : Int) ≤ i) :
    Calls Try.prog 29 #[.pointer (some ⟨g, 0, none⟩), .pointer (some ⟨g2, 0, none⟩), .int .i64 i, .bool true] w (BothE n g g2 V C room room2 N w) := by
  have hat : atV V i = ((0, 0, []), 8) := by rw [atV, if_neg (by omega)]
  have L := postTakeI i h hn hi
  unfold TakeI at L
  rw [hat] at L
  have HL := Lib.hid L
  have hv := k.len
  have k0 := Lib.hid k
  obtain ⟨R, A, cap, Cs, B, capB, h1, _, hV, _⟩ := k
  have hRV : R.length = V.length := by rw [← hV, List.length_map]
  have hr' : i < 0 ∨ (R.length : Int) ≤ i := by omega
  have H1 := Lib.hid h1
  have hrl := h1.fits.1
  clear h hat L hV h1 hRV
  by_cases h0 : i < 0
  · go_enter Try.func29, Try.ntmps29
    go_wp2_with fail
    refine HL.out.mono ?_
    rintro e w2 ⟨D, c, d, rfl, hd, hd2, ho, hp, hk⟩
    have hd' := hd.out
    subst hd'
    have HP : Hid (BothE n g g2 V C room room2 N w (.returned (.bool true)) w2) := Lib.hid ⟨rfl, by simpa using hp, k0.out.tm hk.tm, hk.below⟩
    clear hp hk ho
    go_wp2_with fail
    go_ret
    exact HP.out
  · have h0' : (R.length : Int) ≤ i := by omega
    go_enter Try.func29, Try.ntmps29
    go_wp2_with fail
    refine HL.out.mono ?_
    rintro e w2 ⟨D, c, d, rfl, hd, hd2, ho, hp, hk⟩
    have hd' := hd.out
    subst hd'
    have c1 := (H1.out.tm hk.tm).blk.cell 1 rfl
    have HP : Hid (BothE n g g2 V C room room2 N w (.returned (.bool true)) w2) := Lib.hid ⟨rfl, by simpa using hp, k0.out.tm hk.tm, hk.below⟩
    clear hp hk ho
    go_wp2_with fail
    go_ret
    exact HP.out

theorem Ltr.cells_len {R : List Ltr} : ∀ r ∈ R.map Ltr.cells, r.length = 3 := by
  intro r hr
  obtain ⟨q, _, rfl⟩ := List.mem_map.1 hr
  rfl
theorem Ltr.cells_one {R : List Ltr} : ∀ r ∈ R.map Ltr.cells, ∀ v ∈ r, v.oneCell' = true := by
  intro r hr v hv
  obtain ⟨q, _, rfl⟩ := List.mem_map.1 hr
  simp [Ltr.cells] at hv
  rcases hv with rfl | rfl | rfl <;> rfl
theorem OR.head {w : World} {base c k : Nat} {e : TypeId} {A : Option Addr} {rows : List (List Value)} (h : OR w base e k A c rows) (hn : 0 < rows.length) : ∃ b, A = some ⟨b, 0, none⟩ := by
  rcases h.form with ⟨_, _, rfl⟩ | ⟨g, rfl, _⟩
  · simp at hn
  · exact ⟨g, rfl⟩

set_option maxRecDepth 20000 in
set_option maxHeartbeats 8000000 in
theorem lawTake_in (i : Nat) (h : PI n w g V C room) (k : RI n w g2 V C room2 N) (hn : n ≤ w.heap.size) (hi : i < V.length) :
    Calls Try.prog 29 #[.pointer (some ⟨g, 0, none⟩), .pointer (some ⟨g2, 0, none⟩), .int .i64 (i : Int), .bool true] w (BothE n g g2 (V.eraseIdx i) C room room2 N w) := by
  have hv := k.len
  have hat : atV V (i : Int) = (V.getD i (0, 0, []), 0) := by rw [atV, if_pos (by omega), Int.toNat_natCast]
  have L := postTakeI (i : Int) h hn (by omega)
  unfold TakeI at L
  rw [hat] at L
  obtain ⟨R, A, cap, Cs, B, capB, h1, hfr, hV, hCn, hC⟩ := k
  have hRV : R.length = V.length := by rw [← hV, List.length_map]
  have hiR : i < R.length := by omega
  have hgd : V.getD i (0, 0, []) = (R[i].f, R[i].t, R[i].d) := by rw [← hV]; simp [Ltr.val, hiR]
  rw [hgd] at L
  simp only [if_true, Int.toNat_natCast] at L
  have HL := Lib.hid L
  have H1 := Lib.hid h1
  have HFR := Lib.hid hfr
  have HRI : Hid (∀ w' A' cap', RefR w' g2 (R.eraseIdx i) A' cap' Cs B capB room2 → (∀ b, A'.map (·.block) = some b → n ≤ b) → RI n w' g2 (V.eraseIdx i) C room2 N) := Lib.hid (fun w' A' cap' hR hA => ⟨_, A', cap', Cs, B, capB, hR, ⟨hfr.1, hA, hfr.2.2.1, fun r hr => hfr.2.2.2 r (mem_erase hr)⟩, by rw [← hV, eraseIdx_map'], hCn, hC⟩)
  have hrl := h1.fits.1
  obtain ⟨b, rfl⟩ := h1.row.head (by simpa using (show 0 < R.length by omega))
  have HDAT : Hid (∀ w', RefR w' g2 R (some ⟨b, 0, none⟩) cap Cs B capB room2 → w'.cell? ⟨b, i * 3, none⟩ = some (.int .i64 R[i].f) ∧ w'.cell? ⟨b, i * 3 + 1, none⟩ = some (.int .i64 R[i].t) ∧ w'.cell? ⟨b, i * 3 + 2, none⟩ = some (.slice R[i].A R[i].d.length R[i].c) ∧ OB w' 0 R[i].A R[i].c R[i].d) := Lib.hid (fun w' hw' => by
    have hg := fun (j : Nat) (v : Value) (hj : R[i].cells[j]? = some v) => hw'.row.rs.get (i := i) (cs := R[i].cells) (by simp [hiR]) j (v := v) hj
    exact ⟨by simpa using hg 0 (.int .i64 R[i].f) (by simp [Ltr.cells]), by simpa using hg 1 (.int .i64 R[i].t) (by simp [Ltr.cells]), by simpa using hg 2 (.slice R[i].A R[i].d.length R[i].c) (by simp [Ltr.cells]), (hw'.data _ (List.getElem_mem hiR)).1⟩)
  have hel : (R.eraseIdx i).length = R.length - 1 := by rw [List.length_eraseIdx, if_pos hiR]
  have HEL := Lib.hid hel
  have hrcap := h1.row.cap
  rw [List.length_map] at hrcap
  generalize R[i].f = f at *
  generalize R[i].t = t at *
  generalize R[i].A = DA at *
  generalize R[i].c = dc at *
  generalize R[i].d = d at *
  have h0 : ¬ (i : Int) < 0 := by omega
  have hic : i ≤ cap := by omega
  clear h hat L hV h1 hRV hgd hi hv hfr hCn hC hel
  go_enter Try.func29, Try.ntmps29
  go_wp2_with fail
  refine HL.out.mono ?_
  rintro e w2 ⟨D, c, d', rfl, hd, hd2, ho, hp, hk⟩
  have hd' := hd.out
  subst hd'
  have h2 := H1.out.tm hk.tm
  have c1 := h2.blk.cell 1 rfl
  obtain ⟨r0, r1, r2, _⟩ := HDAT.out w2 h2
  have hb3 : Below w2.heap.size w2 (w2.alloc (.cells #[.int .i64 f, .int .i64 t, .slice DA d'.length dc] 68)) := (Below.refl _ _).alloc (Nat.le_refl _) _
  have hX3 := Blk.new w2 #[.int .i64 f, .int .i64 t, .slice DA d'.length dc] 68
  obtain ⟨xb, hxb⟩ : ∃ xb, xb = w2.heap.size := ⟨_, rfl⟩
  rw [← hxb] at hX3
  have HXB := Lib.hid hxb
  have hn2 := Nat.le_trans hn hk.below.size
  have hB2 := hk.below
  have hs4 : xb + 1 ≤ ((w2.alloc (.cells #[.int .i64 f, .int .i64 t, .slice DA d'.length dc] 68)).alloc (.cells #[] 68)).heap.size := by simp; omega
  have hb4 : Below w2.heap.size w2 ((w2.alloc (.cells #[.int .i64 f, .int .i64 t, .slice DA d'.length dc] 68)).alloc (.cells #[] 68)) := hb3.alloc hb3.size _
  have h4 := h2.below hb4
  have hO4 : OR ((w2.alloc (.cells #[.int .i64 f, .int .i64 t, .slice DA d'.length dc] 68)).alloc (.cells #[] 68)) (xb + 1) 68 3 (some ⟨w2.heap.size + 1, 0, none⟩) 0 [] := by
    have := OR.made0 (base := xb + 1) (w2.alloc (.cells #[.int .i64 f, .int .i64 t, .slice DA d'.length dc] 68)) 68 3 (by have := HXB.out; simp; omega)
    rwa [show (w2.alloc (.cells #[.int .i64 f, .int .i64 t, .slice DA d'.length dc] 68)).heap.size = w2.heap.size + 1 from by simp] at this
  obtain ⟨i0, hi0, hz0, hz1, hz2⟩ := info_parts rletter_info
  have hxw : xb = w2.heap.size := HXB.out
  have hi1 : i + 1 ≤ R.length := by omega
  have hi2 : i + 1 ≤ cap := by omega
  have c1' := (h2.below hb3).blk.cell 1 rfl
  have c1'' := h4.blk.cell 1 rfl
  clear hk HL hxb
  by_cases hj : i + 1 < cap
  · skip
    go_wp2_with (first
      | (at_builtin; refine wp_appendS _ rfl (.tmp 66) (.tmp 72) 42 68 rfl Try.underlying42 hi0 hz0 hz1 hz2 rfl (by decide) (xb + 1) _ (some ⟨b, 0, none⟩) 0 cap [] ((R.map Ltr.cells).take i) rfl (by rw [List.length_take, List.length_map, Nat.min_eq_left (by omega)]; rfl) hO4 (h4.row.rs.take i) (fun r hr => Ltr.cells_len r (List.mem_of_mem_take hr)) (fun r hr => Ltr.cells_one r (List.mem_of_mem_take hr)) (by simp; omega) (by simp; omega) hs4 ?_
         intro ys5 A5 c5 w5 hy5 hy51 hy52 hrow5 hg5 _
         have hb5 : Below w2.heap.size w2 w5 := hb4.grown hg5 hb4.size (fun b hb => by simp at hb; omega)
         have h5 := h2.below hb5
         have c1 := h5.blk.cell 1 rfl
         simp only [List.length_nil, Nat.zero_add, List.length_take, List.length_map] at hy51 hy52)
      | (at_builtin; refine wp_appendS w5 rfl (.tmp 75) (.tmp 82) 42 68 rfl Try.underlying42 hi0 hz0 hz1 hz2 rfl (by decide) (xb + 1) A5 (some ⟨b, (i + 1) * 3, none⟩) c5 (cap - (i + 1)) ys5 ((R.map Ltr.cells).drop (i + 1)) rfl (by rw [List.length_drop, List.length_map]; rfl) hrow5 (by have := h5.row.rs.drop (i + 1); rwa [Nat.zero_add] at this) (fun r hr => Ltr.cells_len r (List.mem_of_mem_drop hr)) (fun r hr => Ltr.cells_one r (List.mem_of_mem_drop hr)) (by simp; omega) (by simp; omega) (Nat.le_trans hs4 hg5.size) ?_
         intro ys6 A6 c6 w6 hy6 hy61 hy62 hrow6 hg6 _
         have hb6 : Below w2.heap.size w2 w6 := hb5.grown hg6 hb5.size (fun b hb => by have := (hrow5.blk_lt b hb).1; omega)
         clear c1
         have h6 := h2.below hb6
         have c1 := h6.blk.cell 1 rfl
         have f1 := h6.blk.free 1
         have hd6 : ys6 = (R.eraseIdx i).map Ltr.cells := by
           have e5 := hy5.out
           rw [List.nil_append] at e5
           rw [hy6.out, e5, ← eraseIdx_map', List.eraseIdx_eq_take_drop_succ]
         have hrow6' := hrow6.mono (Nat.zero_le _)
         have hyl : ys6.length = (R.eraseIdx i).length := by rw [hd6, List.length_map]
         rw [hd6] at hrow6'
         have h7 := h6.setList hrow6' (fun r hr => h6.data r (mem_erase hr)) (by rw [HEL.out]; omega) ys6.length hyl
         have hA6 : ∀ b, A6.map (·.block) = some b → n ≤ b := fun b hb => by have := (hrow6.blk_lt b hb).1; have := HXB.out; omega
         have hR7 := HRI.out _ A6 c6 h7 hA6
         have htm7 : TM badR w2 (w6.setCell ⟨g2, 1, none⟩ (.slice A6 ys6.length c6)) := (TM.below hb6).setCell (p := ⟨g2, 1, none⟩) (fun o ho => by rw [show w6.heap[g2]? = _ from h6.blk] at ho; injection ho with ho; subst ho; exact .inl rfl) _
         have hP7 := hp.tm htm7
         have hD7 : OB (w6.setCell ⟨g2, 1, none⟩ (.slice A6 ys6.length c6)) 0 D c d' := (ho.below hb6).setCell_ne (p := ⟨g2, 1, none⟩) ((ho.below hb6).ne_var h6.blk (by decide)) _
         have hE6 := (HDAT.out w6 h6).2.2.2
         have hE7 := hE6.setCell_ne (p := ⟨g2, 1, none⟩) (hE6.ne_var h6.blk (by decide)) (.slice A6 ys6.length c6)
         have hX7 := ((hX3.kept ((Below.refl _ _).alloc (Nat.le_refl _) (.cells #[] 68))).grown hg5 (fun e => by simp at e; omega)).grown hg6 (fun e => by have := (hrow5.blk_lt _ e).1; omega)
         have hX8 := hX7.setCell_other (a := ⟨g2, 1, none⟩) (.slice A6 ys6.length c6) (by have := h2.blk.lt; simp; omega)
         have hB7 := (hB2.trans (hb6.mono hn2)).setCell (p := ⟨g2, 1, none⟩) (by simpa using HFR.out.1) (.slice A6 ys6.length c6)
         have HF : Hid (BothE n g g2 (V.eraseIdx i) C room room2 N w (.returned (.bool true)) (w6.setCell ⟨g2, 1, none⟩ (.slice A6 ys6.length c6))) := Lib.hid ⟨rfl, hP7, hR7, hB7⟩
         have hc1 : (convert 33 9 (.slice D d'.length c)).run Try.prog (w6.setCell ⟨g2, 1, none⟩ (.slice A6 ys6.length c6)) = .ok (.string ⟨d'.toArray⟩) (w6.setCell ⟨g2, 1, none⟩ (.slice A6 ys6.length c6)) := convB c hD7.rb
         have hc2 : (convert 33 9 (.slice DA d'.length dc)).run Try.prog (w6.setCell ⟨g2, 1, none⟩ (.slice A6 ys6.length c6)) = .ok (.string ⟨d'.toArray⟩) (w6.setCell ⟨g2, 1, none⟩ (.slice A6 ys6.length c6)) := convB dc hE7.rb
         have x0 := hX8.cell 0 rfl
         have x1 := hX8.cell 1 rfl
         have x2 := hX8.cell 2 rfl
         rw [HXB.out] at x0 x1 x2
         clear hy6 hy61 hy62 hrow6 hg6 hb6 h6 hrow6' h7 hA6 hR7 htm7 hP7 hD7 hE6 hE7 hX7 hX8 hB7 hd6 hy5 hyl h5 hb5 hrow5 hg5 hX3 ho hp))
    go_ret
    exact HF.out
  · obtain rfl : cap = i + 1 := by omega
    go_wp2_with (first
      | (at_builtin; refine wp_appendS _ rfl (.tmp 66) (.tmp 72) 42 68 rfl Try.underlying42 hi0 hz0 hz1 hz2 rfl (by decide) (xb + 1) _ (some ⟨b, 0, none⟩) 0 (i + 1) [] ((R.map Ltr.cells).take i) rfl (by rw [List.length_take, List.length_map, Nat.min_eq_left (by omega)]; rfl) hO4 (h4.row.rs.take i) (fun r hr => Ltr.cells_len r (List.mem_of_mem_take hr)) (fun r hr => Ltr.cells_one r (List.mem_of_mem_take hr)) (by simp; omega) (by simp; omega) hs4 ?_
         intro ys5 A5 c5 w5 hy5 hy51 hy52 hrow5 hg5 _
         have hb5 : Below w2.heap.size w2 w5 := hb4.grown hg5 hb4.size (fun b hb => by simp at hb; omega)
         have h5 := h2.below hb5
         have c1 := h5.blk.cell 1 rfl
         simp only [List.length_nil, Nat.zero_add, List.length_take, List.length_map] at hy51 hy52)
      | (at_builtin; refine wp_appendS w5 rfl (.tmp 75) (.tmp 82) 42 68 rfl Try.underlying42 hi0 hz0 hz1 hz2 rfl (by decide) (xb + 1) A5 (some ⟨b, 0, none⟩) c5 0 ys5 ((R.map Ltr.cells).drop (i + 1)) rfl (by rw [List.drop_of_length_le (by rw [List.length_map]; omega)]; rfl) hrow5 (by rw [List.drop_of_length_le (by rw [List.length_map]; omega)]; exact RS.nil) (fun r hr => Ltr.cells_len r (List.mem_of_mem_drop hr)) (fun r hr => Ltr.cells_one r (List.mem_of_mem_drop hr)) (by simp; omega) (by simp; omega) (Nat.le_trans hs4 hg5.size) ?_
         intro ys6 A6 c6 w6 hy6 hy61 hy62 hrow6 hg6 _
         have hb6 : Below w2.heap.size w2 w6 := hb5.grown hg6 hb5.size (fun b hb => by have := (hrow5.blk_lt b hb).1; omega)
         clear c1
         have h6 := h2.below hb6
         have c1 := h6.blk.cell 1 rfl
         have f1 := h6.blk.free 1
         have hd6 : ys6 = (R.eraseIdx i).map Ltr.cells := by
           have e5 := hy5.out
           rw [List.nil_append] at e5
           rw [hy6.out, e5, ← eraseIdx_map', List.eraseIdx_eq_take_drop_succ]
         have hrow6' := hrow6.mono (Nat.zero_le _)
         have hyl : ys6.length = (R.eraseIdx i).length := by rw [hd6, List.length_map]
         rw [hd6] at hrow6'
         have h7 := h6.setList hrow6' (fun r hr => h6.data r (mem_erase hr)) (by rw [HEL.out]; omega) ys6.length hyl
         have hA6 : ∀ b, A6.map (·.block) = some b → n ≤ b := fun b hb => by have := (hrow6.blk_lt b hb).1; have := HXB.out; omega
         have hR7 := HRI.out _ A6 c6 h7 hA6
         have htm7 : TM badR w2 (w6.setCell ⟨g2, 1, none⟩ (.slice A6 ys6.length c6)) := (TM.below hb6).setCell (p := ⟨g2, 1, none⟩) (fun o ho => by rw [show w6.heap[g2]? = _ from h6.blk] at ho; injection ho with ho; subst ho; exact .inl rfl) _
         have hP7 := hp.tm htm7
         have hD7 : OB (w6.setCell ⟨g2, 1, none⟩ (.slice A6 ys6.length c6)) 0 D c d' := (ho.below hb6).setCell_ne (p := ⟨g2, 1, none⟩) ((ho.below hb6).ne_var h6.blk (by decide)) _
         have hE6 := (HDAT.out w6 h6).2.2.2
         have hE7 := hE6.setCell_ne (p := ⟨g2, 1, none⟩) (hE6.ne_var h6.blk (by decide)) (.slice A6 ys6.length c6)
         have hX7 := ((hX3.kept ((Below.refl _ _).alloc (Nat.le_refl _) (.cells #[] 68))).grown hg5 (fun e => by simp at e; omega)).grown hg6 (fun e => by have := (hrow5.blk_lt _ e).1; omega)
         have hX8 := hX7.setCell_other (a := ⟨g2, 1, none⟩) (.slice A6 ys6.length c6) (by have := h2.blk.lt; simp; omega)
         have hB7 := (hB2.trans (hb6.mono hn2)).setCell (p := ⟨g2, 1, none⟩) (by simpa using HFR.out.1) (.slice A6 ys6.length c6)
         have HF : Hid (BothE n g g2 (V.eraseIdx i) C room room2 N w (.returned (.bool true)) (w6.setCell ⟨g2, 1, none⟩ (.slice A6 ys6.length c6))) := Lib.hid ⟨rfl, hP7, hR7, hB7⟩
         have hc1 : (convert 33 9 (.slice D d'.length c)).run Try.prog (w6.setCell ⟨g2, 1, none⟩ (.slice A6 ys6.length c6)) = .ok (.string ⟨d'.toArray⟩) (w6.setCell ⟨g2, 1, none⟩ (.slice A6 ys6.length c6)) := convB c hD7.rb
         have hc2 : (convert 33 9 (.slice DA d'.length dc)).run Try.prog (w6.setCell ⟨g2, 1, none⟩ (.slice A6 ys6.length c6)) = .ok (.string ⟨d'.toArray⟩) (w6.setCell ⟨g2, 1, none⟩ (.slice A6 ys6.length c6)) := convB dc hE7.rb
         have x0 := hX8.cell 0 rfl
         have x1 := hX8.cell 1 rfl
         have x2 := hX8.cell 2 rfl
         rw [HXB.out] at x0 x1 x2
         clear hy6 hy61 hy62 hrow6 hg6 hb6 h6 hrow6' h7 hA6 hR7 htm7 hP7 hD7 hE6 hE7 hX7 hX8 hB7 hd6 hy5 hyl h5 hb5 hrow5 hg5 hX3 ho hp))
    go_ret
    exact HF.out
end
end Go.Proofs.Ytihmnkkhccihpaa
