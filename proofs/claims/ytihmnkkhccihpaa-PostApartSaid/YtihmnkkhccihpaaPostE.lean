/- Contracts of post's methods: Take, Copy. -/
import Derived.Test.YtihmnkkhccihpaaPostD
namespace Go.Proofs.Ytihmnkkhccihpaa
open Go.RowKit

section
variable {g : Nat} {R : List Ltr} {A : Option Addr} {cap m : Nat} {es : List ((Int × Int) × Value)} {room : Int}

set_option maxRecDepth 20000 in
set_option maxHeartbeats 2000000 in
theorem postTake_err (ptr : Value) (i er : Int) (hne : er ≠ 0) (w : World) (hat : Calls Try.prog 24 #[ptr, .int .i64 i] w fun e w' => e = .returned (.tuple #[.agg #[.int .i64 0, .int .i64 0, .slice none 0 0], .int .i64 er]) ∧ Below w.heap.size w w') :
    Calls Try.prog 15 #[ptr, .int .i64 i] w fun e w' => e = .returned (.tuple #[.int .i64 0, .int .i64 0, .slice none 0 0, .int .i64 er]) ∧ Below w.heap.size w w' := by
  have HAT := Lib.hid hat
  have hne' : (er == 0) = false := by simpa using hne
  clear hat hne
  go_enter Try.func15, Try.ntmps15
  go_wp2_with fail
  refine HAT.out.mono ?_
  rintro e w2 ⟨rfl, hb2⟩
  have hX := Blk.new w2 #[.int .i64 0, .int .i64 0, .slice none 0 0] 59
  have HB := Lib.hid (hb2.alloc hb2.size (.cells #[.int .i64 0, .int .i64 0, .slice none 0 0] 59))
  have x0 := hX.cell 0 rfl
  have x1 := hX.cell 1 rfl
  have x2 := hX.cell 2 rfl
  clear hb2 hX
  go_wp2_with fail
  go_quiet (fail)
  go_wp2_with fail
  refine bodyPost_ret (v := .tuple #[.int .i64 0, .int .i64 0, .slice none 0 0, .int .i64 er]) (by simp [results, Try.results15, go_sem]) rfl ⟨rfl, below_drewN HB.out _⟩
theorem postTake_nil (i : Int) (w : World) : Calls Try.prog 15 #[.pointer none, .int .i64 i] w fun e w' => e = .returned (.tuple #[.int .i64 0, .int .i64 0, .slice none 0 0, .int .i64 1]) ∧ Below w.heap.size w w' := postTake_err _ i 1 (by decide) w (postAt_nil i w)
theorem postTake_out (i : Int) (w : World) (h : PostR w g R A cap m es room) (hi : i < 0 ∨ (R.length : Int) ≤ i) (hi2 : -9223372036854775808 ≤ i ∧ i ≤ 9223372036854775807) : Calls Try.prog 15 #[.pointer (some ⟨g, 0, none⟩), .int .i64 i] w fun e w' => e = .returned (.tuple #[.int .i64 0, .int .i64 0, .slice none 0 0, .int .i64 8]) ∧ Below w.heap.size w w' :=
  postTake_err _ i 8 (by decide) w (postAt_out i w h hi hi2)

/-- What Take ends in. -/
def TakeE (g : Nat) (R : List Ltr) (i : Nat) (A : Option Addr) (cap m : Nat) (es : List ((Int × Int) × Value)) (room f t : Int) (D : Option Addr) (c : Nat) (d : List UInt8) (w : World) (e : Ending) (w' : World) : Prop :=
  e = .returned (.tuple #[.int .i64 f, .int .i64 t, .slice D d.length c, .int .i64 0]) ∧ PostR w' g (R.eraseIdx i) A cap m es room ∧ Mods (PF g A) w w' ∧ OB w' 0 D c d

theorem Ltr.one {R : List Ltr} : ∀ u ∈ (R.map Ltr.cells).flatten, u.oneCell' = true := by
  intro u hu
  obtain ⟨r, hr, hur⟩ := List.mem_flatten.1 hu
  obtain ⟨q, _, rfl⟩ := List.mem_map.1 hr
  simp [Ltr.cells] at hur
  rcases hur with rfl | rfl | rfl <;> rfl

set_option maxRecDepth 20000 in
set_option maxHeartbeats 4000000 in
theorem postTake (i : Nat) (w : World) (h : PostR w g R A cap m es room) (hi : i < R.length) : Calls Try.prog 15 #[.pointer (some ⟨g, 0, none⟩), .int .i64 (i : Int)] w (TakeE g R i A cap m es room R[i].f R[i].t R[i].A R[i].c R[i].d w) := by
  have HAT := Lib.hid (postAt_in i w h hi)
  have H := Lib.hid h
  have hD := (h.data _ (List.getElem_mem hi)).1
  have hl := h.fits
  obtain ⟨b, off, rfl, _, _⟩ := h.row.rs.row (i := i) (by simpa using hi)
  obtain rfl : off = 0 := by
    rcases h.row.form with ⟨e, _⟩ | ⟨g', e, _⟩
    · cases e
    · injection e with e
      injection e
  have hblt : b < w.heap.size := (h.row.blk_lt b rfl).2
  have hrw : ∀ w', OR w' 0 59 3 (some ⟨b, 0, none⟩) cap (R.map Ltr.cells) → Calls Try.prog 25 #[.slice (some ⟨b, 0, none⟩) R.length cap, .int .i64 (i : Int), .int .i64 ((i : Int) + 1)] w' (DelE b cap R.length ((R.map Ltr.cells).eraseIdx i) w') := fun w' h' => by
    have := delLetter i w' h' (by simpa using hi) (by rw [List.length_map]; omega) Ltr.one
    rwa [List.length_map] at this
  have HDEL := Lib.hid hrw
  have hel : (R.eraseIdx i).length = R.length - 1 := by rw [List.length_eraseIdx, if_pos hi]
  have HEL := Lib.hid hel
  generalize R[i].f = vf at *
  generalize R[i].t = vt at *
  generalize R[i].A = vA at *
  generalize R[i].c = vc at *
  generalize R[i].d = vd at *
  clear h hrw hel
  go_enter Try.func15, Try.ntmps15
  go_wp2_with fail
  refine HAT.out.mono ?_
  rintro e w2 ⟨rfl, hb2⟩
  have hb3 : Below w2.heap.size w2 (w2.alloc (.cells #[.int .i64 vf, .int .i64 vt, .slice vA vd.length vc] 59)) := (Below.refl _ _).alloc (Nat.le_refl _) _
  have hX := Blk.new w2 #[.int .i64 vf, .int .i64 vt, .slice vA vd.length vc] 59
  obtain ⟨xb, hxb⟩ : ∃ xb, xb = w2.heap.size := ⟨_, rfl⟩
  rw [← hxb] at hX
  have hxw : w.heap.size ≤ xb := by rw [hxb]; exact hb2.size
  have HXB := Lib.hid hxb
  have hB3 := hb2.trans (hb3.mono hb2.size)
  have h3 := H.out.below hB3
  have hD3 := hD.below hB3
  have c0 := h3.blk.cell 0 rfl
  have hi2 : (i : Int) + 1 ≤ 9223372036854775807 := by omega
  clear hb2 hb3 hxb hD
  have H3 := Lib.hid h3
  clear h3
  go_wp2_with fail
  rw [← HXB.out]
  generalize w2.alloc (.cells #[.int .i64 vf, .int .i64 vt, .slice vA vd.length vc] 59) = w3 at *
  refine (HDEL.out w3 H3.out.row).mono ?_
  rintro e w4 ⟨n', hn', rfl, hrow4, hg4⟩
  have hk4 := H3.out.blk.grown hg4 H3.out.ne_row
  have hX4 := hX.grown hg4 (fun e => by injection e with e; omega)
  have hmap4 := H3.out.map.grown hg4 H3.out.map_ne_row
  have hd4 : ∀ r ∈ R, OB w4 0 r.A r.c r.d ∧ r.d.length ≤ 65536 := fun r hr => ⟨(H3.out.data r hr).1.grown_row hg4 ((H3.out.data r hr).1.ne_row H3.out.row (by decide)), (H3.out.data r hr).2⟩
  have hD4 : OB w4 0 vA vc vd := hD3.grown_row hg4 (hD3.ne_row H3.out.row (by decide))
  have hm4 : Mods (PF g (some ⟨b, 0, none⟩)) w w4 := (Mods.of_below hB3).then (.of_grown hg4 fun k hk => .inr hk)
  have hne := H3.out.ne_row
  have hmg := H3.out.map_ne_var
  have hyes := H3.out.yes
  have HN := Lib.hid hn'
  clear c0 H3 hX hD3 hB3 hg4 hn'
  have c0 := hk4.cell 0 rfl
  have f0 := hk4.free 0
  have hk5 := hk4.setCell 0 (.slice (some ⟨b, 0, none⟩) n' cap)
  rw [show (#[.slice (some ⟨b, 0, none⟩) R.length cap, .map (some m), .int .i64 room] : Array Value).setIfInBounds 0 (.slice (some ⟨b, 0, none⟩) n' cap) = #[.slice (some ⟨b, 0, none⟩) n' cap, .map (some m), .int .i64 room] from rfl] at hk5
  have hX5 := hX4.setCell_other (a := ⟨g, 0, none⟩) (.slice (some ⟨b, 0, none⟩) n' cap) (by have := hk4.lt; intro e; subst e; have := cells_ne hX4 hk4 (by decide); exact this rfl)
  have hrow5 := hrow4.setCell_ne (p := ⟨g, 0, none⟩) hne (.slice (some ⟨b, 0, none⟩) n' cap)
  have hmap5 := hmap4.setCell (p := ⟨g, 0, none⟩) hmg (.slice (some ⟨b, 0, none⟩) n' cap)
  have hd5 : ∀ r ∈ R, OB (w4.setCell ⟨g, 0, none⟩ (.slice (some ⟨b, 0, none⟩) n' cap)) 0 r.A r.c r.d ∧ r.d.length ≤ 65536 := fun r hr => ⟨(hd4 r hr).1.setCell_ne (p := ⟨g, 0, none⟩) ((hd4 r hr).1.ne_var hk4 (by decide)) _, (hd4 r hr).2⟩
  have hD5 := hD4.setCell_ne (p := ⟨g, 0, none⟩) (hD4.ne_var hk4 (by decide)) (.slice (some ⟨b, 0, none⟩) n' cap)
  have hm5 := hm4.setCell ⟨g, 0, none⟩ (.inl (.inl rfl)) (.slice (some ⟨b, 0, none⟩) n' cap)
  have hnl : (R.eraseIdx i).length = n' := by rw [HEL.out, HN.out]; rfl
  have HP : Hid (PostR (w4.setCell ⟨g, 0, none⟩ (.slice (some ⟨b, 0, none⟩) n' cap)) g (R.eraseIdx i) (some ⟨b, 0, none⟩) cap m es room) := Lib.hid ⟨by rw [hnl]; exact hk5, by rw [← eraseIdx_map']; exact hrow5, fun r hr => hd5 r (mem_erase hr), hmap5, hyes, by have := HN.out; omega, hl.2⟩
  have HM := Lib.hid hm5
  have HD5 := Lib.hid hD5
  clear hk5 hX4 hrow5 hmap5 hd5 hD5 hm5 hnl hk4 hmap4 hd4 hD4 hm4 hrow4
  have x0 := hX5.cell 0 rfl
  have x1 := hX5.cell 1 rfl
  have x2 := hX5.cell 2 rfl
  go_wp2_with fail
  clear c0 f0
  generalize w4.setCell ⟨g, 0, none⟩ (.slice (some ⟨b, 0, none⟩) n' cap) = w5 at *
  go_quiet (fail)
  go_wp2_with fail
  refine bodyPost_ret (v := .tuple #[.int .i64 vf, .int .i64 vt, .slice vA vd.length vc, .int .i64 0]) (by simp [results, Try.results15, go_sem]) rfl ⟨rfl, HP.out.below (below_drewN (Below.refl _ _) _), HM.out.drewN _, HD5.out.drewN _⟩
end
end Go.Proofs.Ytihmnkkhccihpaa
