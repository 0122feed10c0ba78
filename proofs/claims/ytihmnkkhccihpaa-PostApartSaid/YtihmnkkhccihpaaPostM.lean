/- A post in memory: its letters, its cut ways, its room. -/
import Derived.Test.YtihmnkkhccihpaaRowS
import Derived.Test.YtihmnkkhccihpaaMapT
import Derived.Test.YtihmnkkhccihpaaClone
import Derived.Laws.StructEq
import Derived.Deep.QuietTactic
import Derived.BigQuiet
namespace Go.Proofs.Ytihmnkkhccihpaa
open Go.RowKit

/-- A way, as a key. -/
def linkV (x : Int × Int) : Value := .agg #[.int .i64 x.1, .int .i64 x.2]
theorem link_struct : Try.prog.underlying 56 = some (.struct (Try.prog.fieldsOf 56)) := by kernel_rfl
theorem linkLaw : KeyLaw Try.prog 56 linkV := by
  refine KeyLaw.asked (d := .struct (Try.prog.fieldsOf 56)) link_struct (fun a b => rfl) (fun b k w => ?_) (fun x y w => ?_) (fun k => ?_)
  · have u3 := Try.underlying3
    have hS := link_struct
    have a3 := Try.isAgg3
    have z3 := Try.sizeOf3
    have c3 : ∀ n w, (Instr.checkKey b 9999 3 (.int .i64 n)).run Try.prog w = .ok () w := fun n w => MapKept.run_checkKey u3 (by simp [MapKept.IsKey]) b 9998
    unfold linkV
    rw [show (10000 : Nat) = 9999 + 1 from rfl]
    unfold Instr.checkKey
    simp only [Sem.run_bind, run_underlying hS, Result.andThen_ok, Program.fieldsOf, Try.underlying56]
    simp [c3]
    go_simp
  · have u3 := Try.underlying3
    have a3 := Try.isAgg3
    have z3 := Try.sizeOf3
    have hS := link_struct
    have hp : Try.prog.stoodInHeld 56 = false := by kernel_rfl
    unfold linkV Op.equal
    rw [show Op.maxDepth = 9999 + 1 from rfl, run_equalIn_agg w 9999 56 _ _ hS hp]
    simp only [Program.fieldsOf, Try.underlying56]
    go_simp
    by_cases h1 : x.fst = y.fst <;> by_cases h2 : x.snd = y.snd <;> simp [h1, h2, Prod.ext_iff]
  · simp [linkV, Instr.sameBits]

/-- A letter on the way, as it lies in memory. -/
structure Ltr where
  f : Int
  t : Int
  A : Option Addr
  c : Nat
  d : List UInt8
def Ltr.cells (r : Ltr) : List Value := [.int .i64 r.f, .int .i64 r.t, .slice r.A r.d.length r.c]
def Ltr.val (r : Ltr) : Int × Int × List UInt8 := (r.f, r.t, r.d)
theorem letter_info : (Try.prog.info? 59).map (fun i => (i.zero, i.size, i.bytes)) = some (some (.agg #[.int .i64 0, .int .i64 0, .slice none 0 0]), 3, 40) := by kernel_rfl

/-- A post in memory. -/
structure PostR (w : World) (g : Nat) (R : List Ltr) (A : Option Addr) (cap m : Nat) (es : List ((Int × Int) × Value)) (room : Int) : Prop where
  blk : Blk w g 54 #[.slice A R.length cap, .map (some m), .int .i64 room]
  row : OR w 0 59 3 A cap (R.map Ltr.cells)
  data : ∀ r ∈ R, OB w 0 r.A r.c r.d ∧ r.d.length ≤ 65536
  map : MapAt linkV w m es
  yes : ∀ p ∈ es, p.2 = .bool true
  fits : (R.length : Int) ≤ room ∧ room ≤ 4096

theorem PostR.below {w w' : World} {g : Nat} {R : List Ltr} {A : Option Addr} {cap m : Nat} {es : List ((Int × Int) × Value)} {room : Int} (h : PostR w g R A cap m es room) (hb : Below w.heap.size w w') : PostR w' g R A cap m es room :=
  ⟨h.blk.kept hb, h.row.below hb, fun r hr => ⟨(h.data r hr).1.below hb, (h.data r hr).2⟩, h.map.below hb, h.yes, h.fits⟩

theorem PostR.ne_row {w : World} {g : Nat} {R : List Ltr} {A : Option Addr} {cap m : Nat} {es : List ((Int × Int) × Value)} {room : Int} (h : PostR w g R A cap m es room) : A.map (·.block) ≠ some g := h.row.ne_var h.blk (by decide)
theorem PostR.map_ne_var {w : World} {g : Nat} {R : List Ltr} {A : Option Addr} {cap m : Nat} {es : List ((Int × Int) × Value)} {room : Int} (h : PostR w g R A cap m es room) : m ≠ g := h.map.ne_cells h.blk
theorem PostR.map_ne_row {w : World} {g : Nat} {R : List Ltr} {A : Option Addr} {cap m : Nat} {es : List ((Int × Int) × Value)} {room : Int} (h : PostR w g R A cap m es room) : A.map (·.block) ≠ some m := by
  intro e
  obtain ⟨cs, hc⟩ := h.row.blk m e
  exact h.map.ne_cells hc rfl

/-- Is it an end; may a way be. -/
def endB (n : Int) : Bool := decide ((1 ≤ n ∧ n ≤ 16) ∨ (n ≤ -1 ∧ -16 ≤ n))
def okB (f t : Int) : Bool := endB f && endB t && decide (f ≠ t)

set_option maxHeartbeats 1000000 in
theorem postEnd (n : Int) (w : World) : Calls Try.prog 31 #[.int .i64 n] w fun e w' => e = .returned (.bool (endB n)) ∧ w = w' := by
  by_cases h1 : 1 ≤ n
  · have h3 : ¬ n ≤ -1 := by omega
    by_cases h2 : n ≤ 16
    · have he : endB n = true := by simp [endB]; omega
      rw [he]
      go_enter Try.func31, Try.ntmps31
      go_wp2_with fail
      go_ret
      exact ⟨rfl, rfl⟩
    · have he : endB n = false := by simp [endB]; omega
      rw [he]
      go_enter Try.func31, Try.ntmps31
      go_wp2_with fail
      go_ret
      exact ⟨rfl, rfl⟩
  · by_cases h3 : n ≤ -1
    · by_cases h4 : -16 ≤ n
      · have he : endB n = true := by simp [endB]; omega
        rw [he]
        go_enter Try.func31, Try.ntmps31
        go_wp2_with fail
        go_ret
        exact ⟨rfl, rfl⟩
      · have he : endB n = false := by simp [endB]; omega
        rw [he]
        go_enter Try.func31, Try.ntmps31
        go_wp2_with fail
        go_ret
        exact ⟨rfl, rfl⟩
    · have he : endB n = false := by simp [endB]; omega
      rw [he]
      go_enter Try.func31, Try.ntmps31
      go_wp2_with fail
      go_ret
      exact ⟨rfl, rfl⟩

set_option maxHeartbeats 1000000 in
theorem postOk (f t : Int) (w : World) : Calls Try.prog 21 #[.agg #[.int .i64 f, .int .i64 t]] w fun e w' => e = .returned (.bool (okB f t)) ∧ Below w.heap.size w w' := by
  have hb := (Below.refl w.heap.size w).alloc (Nat.le_refl _) (.cells #[.int .i64 f, .int .i64 t] 56)
  cases h1 : endB f
  · have he : okB f t = false := by simp [okB, h1]
    rw [he]
    go_enter Try.func21, Try.ntmps21
    go_wp2_with fail
    refine (postEnd f _).mono ?_
    rintro e w' ⟨rfl, rfl⟩
    rw [h1]
    go_wp2_with fail
    go_ret
    exact ⟨rfl, hb⟩
  · cases h2 : endB t
    · have he : okB f t = false := by simp [okB, h2]
      rw [he]
      go_enter Try.func21, Try.ntmps21
      go_wp2_with fail
      refine (postEnd f _).mono ?_
      rintro e w' ⟨rfl, rfl⟩
      rw [h1]
      go_wp2_with fail
      refine (postEnd t _).mono ?_
      rintro e w' ⟨rfl, rfl⟩
      rw [h2]
      go_wp2_with fail
      go_ret
      exact ⟨rfl, hb⟩
    · by_cases h3 : f = t
      · have he : okB f t = false := by simp [okB, h3]
        rw [he]
        subst h3
        have h3' : (f != f) = false := by simp
        clear h2 he
        go_enter Try.func21, Try.ntmps21
        go_wp2_with fail
        refine (postEnd f _).mono ?_
        rintro e w' ⟨rfl, rfl⟩
        rw [h1]
        go_wp2_with fail
        refine (postEnd f _).mono ?_
        rintro e w' ⟨rfl, rfl⟩
        rw [h1]
        go_wp2_with fail
        go_ret
        exact ⟨rfl, hb⟩
      · have he : okB f t = true := by simp [okB, h1, h2, h3]
        rw [he]
        have h3' : (f != t) = true := by simpa using h3
        go_enter Try.func21, Try.ntmps21
        go_wp2_with fail
        refine (postEnd f _).mono ?_
        rintro e w' ⟨rfl, rfl⟩
        rw [h1]
        go_wp2_with fail
        refine (postEnd t _).mono ?_
        rintro e w' ⟨rfl, rfl⟩
        rw [h2]
        go_wp2_with fail
        go_ret
        exact ⟨rfl, hb⟩

set_option maxHeartbeats 1000000 in
theorem postNew_bad (room : Int) (h : room < 0 ∨ 4096 < room) (w : World) : Calls Try.prog 8 #[.int .i64 room] w fun e w' => e = .returned (.tuple #[.pointer none, .int .i64 1]) ∧ w = w' := by
  by_cases h0 : room < 0
  · go_enter Try.func8, Try.ntmps8
    go_wp2_with fail
    go_ret2
    exact ⟨rfl, rfl⟩
  · have h1 : 4096 < room := by omega
    go_enter Try.func8, Try.ntmps8
    go_wp2_with fail
    go_ret2
    exact ⟨rfl, rfl⟩
set_option maxHeartbeats 1000000 in
theorem postNew (room : Int) (h0 : 0 ≤ room) (h1 : room ≤ 4096) (w : World) : Calls Try.prog 8 #[.int .i64 room] w fun e w' => e = .returned (.tuple #[.pointer (some ⟨w.heap.size + 1, 0, none⟩), .int .i64 0]) ∧
    PostR w' (w.heap.size + 1) [] none 0 w.heap.size [] room ∧ Below w.heap.size w w' := by
  have k0 : ¬ room < 0 := by omega
  have k1 : ¬ 4096 < room := by omega
  have hm : MapAt linkV (w.alloc (.map #[] 0)) w.heap.size [] := MapAt.made w
  have hb1 := (Below.refl w.heap.size w).alloc (Nat.le_refl _) (.map #[] 0)
  have hb2 := (Below.refl (w.alloc (.map #[] 0)).heap.size (w.alloc (.map #[] 0))).alloc (Nat.le_refl _) (.cells #[.slice none 0 0, .map (some w.heap.size), .int .i64 room] 54)
  have hk := Blk.new (w.alloc (.map #[] 0)) #[.slice none 0 0, .map (some w.heap.size), .int .i64 room] 54
  rw [show (w.alloc (.map #[] 0)).heap.size = w.heap.size + 1 from by simp] at hk
  have HP : Hid (PostR ((w.alloc (.map #[] 0)).alloc (.cells #[.slice none 0 0, .map (some w.heap.size), .int .i64 room] 54)) (w.heap.size + 1) [] none 0 w.heap.size [] room) :=
    Lib.hid ⟨hk, OR.nil _ _ _ _, by simp, hm.below hb2, by simp, by simpa using h0, h1⟩
  have HB := Lib.hid (hb1.trans (hb2.mono hb1.size))
  clear hm hb1 hb2 hk
  have hmk := run_makeMap (P := Try.prog) 51 w
  go_enter Try.func8, Try.ntmps8
  go_wp2_with fail
  go_ret2
  refine ⟨by simp, HP.out, HB.out⟩
end Go.Proofs.Ytihmnkkhccihpaa
