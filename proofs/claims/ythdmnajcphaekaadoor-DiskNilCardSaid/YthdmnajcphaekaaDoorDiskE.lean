/- A disk in memory; contracts of package disk's New, alive. -/
import Derived.Test.YthdmnajcphaekaaDoorDiskD
namespace Go.Proofs.YthdmnajcphaekaaDoor
open Go.RowKit

/-- A disk. -/
structure DSt where
  sure : FS
  unsure : List Wr
  room : Int
  fuse : Int
  down : Bool
def DSt.files (D : DSt) : FS := D.unsure.foldl doF D.sure
def Wr.ok (w : Wr) : Prop := (w.kind = 1 ∨ w.kind = 2 ∨ w.kind = 3) ∧ w.off + w.data.length ≤ 4194304
def wrRow (p : Wr × Option Addr × Nat) : List Value := [.int .i64 p.1.kind, .string ⟨p.1.name.toArray⟩, .int .i64 (p.1.off : Int), .slice p.2.1 p.1.data.length p.2.2]
/-- Changes in memory; all that they lie in is of these blocks. -/
def UI (S : Nat → Prop) (w : World) (A : Option Addr) (c : Nat) (us : List Wr) : Prop :=
  ∃ L : List (Wr × Option Addr × Nat), L.map Prod.fst = us ∧ OR w 0 73 4 A c (L.map wrRow) ∧ (∀ b, A.map (·.block) = some b → S b) ∧ ∀ p ∈ L, OBS S w p.2.1 p.2.2 p.1.data
def DSt.ok (D : DSt) : Prop := (0 ≤ D.room ∧ D.room ≤ 4194304) ∧ (0 ≤ D.fuse ∧ D.fuse ≤ 9223372036854775807) ∧ (∀ k l, fget D.sure k = some l → l.length ≤ 4194304) ∧ (∀ u ∈ D.unsure, u.ok)
/-- How many files there can be. -/
def DSt.cnt (D : DSt) : Nat := D.sure.length + D.unsure.length
/-- The disk in memory, its parts by name; all that it lies in is of these blocks. -/
structure DR (S : Nat → Prop) (w : World) (g mf ms : Nat) (A : Option Addr) (c : Nat) (D : DSt) : Prop where
  blk : Blk w g 69 #[.map (some mf), .map (some ms), .slice A D.unsure.length c, .int .i64 D.room, .int .i64 D.fuse, .bool D.down]
  fi : FI S w mf D.files
  si : FI S w ms D.sure
  ne : mf ≠ ms
  ui : UI S w A c D.unsure
  sg : S g
  ok : D.ok
  bnd : ∀ b, S b → b < w.heap.size
def DI (S : Nat → Prop) (w : World) (g : Nat) (D : DSt) : Prop := ∃ (mf ms : Nat) (A : Option Addr) (c : Nat), DR S w g mf ms A c D
theorem UI.below {S : Nat → Prop} {w w' : World} {A : Option Addr} {c : Nat} {us : List Wr} (h : UI S w A c us) (hb : Below w.heap.size w w') : UI S w' A c us := by
  obtain ⟨L, h1, h2, h3, h4⟩ := h
  exact ⟨L, h1, h2.below hb, h3, fun p hp => (h4 p hp).below hb⟩
theorem DR.below {S : Nat → Prop} {w w' : World} {g mf ms : Nat} {A : Option Addr} {c : Nat} {D : DSt} (h : DR S w g mf ms A c D) (hb : Below w.heap.size w w') : DR S w' g mf ms A c D :=
  ⟨h.blk.kept hb, h.fi.below hb, h.si.below hb, h.ne, h.ui.below hb, h.sg, h.ok, fun b hs => Nat.lt_of_lt_of_le (h.bnd b hs) hb.size⟩
theorem DI.below {S : Nat → Prop} {w w' : World} {g : Nat} {D : DSt} (h : DI S w g D) (hb : Below w.heap.size w w') : DI S w' g D := by
  obtain ⟨mf, ms, A, c, r⟩ := h
  exact ⟨mf, ms, A, c, r.below hb⟩
/-- What lies in these blocks stands where they stand. -/
theorem FI.of_blocks {S : Nat → Prop} {w w' : World} {m : Nat} {F : FS} (h : FI S w m F) (hk : ∀ b, b < w.heap.size → S b → w'.heap[b]? = w.heap[b]?) : FI S w' m F := by
  obtain ⟨es, h1, h2, h3, h4⟩ := h
  exact ⟨es, h1.of_block (hk m h1.lt h4), ⟨fun k v hv => by
    obtain ⟨A, c, l, e1, e2, e3⟩ := h2.hit k v hv
    exact ⟨A, c, l, e1, e2.of_block fun b hb => hk b (e2.1.blk_lt b hb).2 (e2.2 b hb), e3⟩, h2.miss⟩, h3, h4⟩
theorem UI.of_blocks {S : Nat → Prop} {w w' : World} {A : Option Addr} {c : Nat} {us : List Wr} (h : UI S w A c us) (hk : ∀ b, b < w.heap.size → S b → w'.heap[b]? = w.heap[b]?) : UI S w' A c us := by
  obtain ⟨L, h1, h2, h3, h4⟩ := h
  exact ⟨L, h1, h2.of_block fun b hb => hk b (h2.blk_lt b hb).2 (h3 b hb), h3, fun p hp => (h4 p hp).of_block fun b hb => hk b ((h4 p hp).1.blk_lt b hb).2 ((h4 p hp).2 b hb)⟩
theorem DR.of_blocks {S : Nat → Prop} {w w' : World} {g mf ms : Nat} {A : Option Addr} {c : Nat} {D : DSt} (h : DR S w g mf ms A c D) (hs : w.heap.size ≤ w'.heap.size) (hk : ∀ b, b < w.heap.size → S b → w'.heap[b]? = w.heap[b]?) : DR S w' g mf ms A c D :=
  ⟨by unfold Blk; rw [hk g h.blk.lt h.sg]; exact h.blk, h.fi.of_blocks hk, h.si.of_blocks hk, h.ne, h.ui.of_blocks hk, h.sg, h.ok, fun b hb => Nat.lt_of_lt_of_le (h.bnd b hb) hs⟩
theorem DR.mods {S R : Nat → Prop} {w w' : World} {g mf ms : Nat} {A : Option Addr} {c : Nat} {D : DSt} (h : DR S w g mf ms A c D) (k : Mods R w w') (hd : ∀ b, b < w.heap.size → S b → ¬ R b) : DR S w' g mf ms A c D :=
  h.of_blocks k.size fun b hb hs => k.block b hb (hd b hb hs)
theorem DI.mods {S R : Nat → Prop} {w w' : World} {g : Nat} {D : DSt} (h : DI S w g D) (k : Mods R w w') (hd : ∀ b, b < w.heap.size → S b → ¬ R b) : DI S w' g D := by
  obtain ⟨mf, ms, A, c, r⟩ := h
  exact ⟨mf, ms, A, c, r.mods k hd⟩
theorem FI.mono {S T : Nat → Prop} {w : World} {m : Nat} {F : FS} (h : FI S w m F) (hs : ∀ b, b < w.heap.size → S b → T b) : FI T w m F := by
  obtain ⟨es, h1, h2, h3, h4⟩ := h
  exact ⟨es, h1, ⟨fun k v hv => by
    obtain ⟨A, c, l, e1, e2, e3⟩ := h2.hit k v hv
    exact ⟨A, c, l, e1, e2.mono hs, e3⟩, h2.miss⟩, h3, hs m h1.lt h4⟩
theorem UI.mono {S T : Nat → Prop} {w : World} {A : Option Addr} {c : Nat} {us : List Wr} (h : UI S w A c us) (hs : ∀ b, b < w.heap.size → S b → T b) : UI T w A c us := by
  obtain ⟨L, h1, h2, h3, h4⟩ := h
  exact ⟨L, h1, h2, fun b hb => hs b (h2.blk_lt b hb).2 (h3 b hb), fun p hp => (h4 p hp).mono hs⟩
theorem DR.mono {S T : Nat → Prop} {w : World} {g mf ms : Nat} {A : Option Addr} {c : Nat} {D : DSt} (h : DR S w g mf ms A c D) (hs : ∀ b, S b → T b) (ht : ∀ b, T b → b < w.heap.size) : DR T w g mf ms A c D :=
  ⟨h.blk, h.fi.mono fun b _ => hs b, h.si.mono fun b _ => hs b, h.ne, h.ui.mono fun b _ => hs b, hs g h.sg, h.ok, ht⟩
theorem DI.mono {S T : Nat → Prop} {w : World} {g : Nat} {D : DSt} (h : DI S w g D) (hs : ∀ b, S b → T b) (ht : ∀ b, T b → b < w.heap.size) : DI T w g D := by
  obtain ⟨mf, ms, A, c, r⟩ := h
  exact ⟨mf, ms, A, c, r.mono hs ht⟩
theorem DI.bnd {S : Nat → Prop} {w : World} {g : Nat} {D : DSt} (h : DI S w g D) : ∀ b, S b → b < w.heap.size := by
  obtain ⟨mf, ms, A, c, r⟩ := h
  exact r.bnd
/-- Another map, and rows of bytes, stand behind a change of a map. -/
theorem FI.of_map {S : Nat → Prop} {w w' : World} {m m2 : Nat} {F : FS} {es : List (Nm × Value)} (h : FI S w m F) (h2 : MapAt encStr w m2 es) (hne : m ≠ m2) (hk : Mods (fun b => b = m2) w w') : FI S w' m F := by
  obtain ⟨es, e1, e2, e3, e4⟩ := h
  exact ⟨es, e1.mods hk hne, ⟨fun k v hv => by
    obtain ⟨A, c, l, e1, e2, e3⟩ := e2.hit k v hv
    refine ⟨A, c, l, e1, e2.of_block fun b hb => hk.block b (e2.1.blk_lt b hb).2 ?_, e3⟩
    rintro rfl
    obtain ⟨cs, hc⟩ := e2.1.blk _ hb
    exact h2.ne_cells hc rfl, e2.miss⟩, e3, e4⟩
theorem UI.of_map {S : Nat → Prop} {w w' : World} {m2 : Nat} {es : List (Nm × Value)} {A : Option Addr} {c : Nat} {us : List Wr} (h : UI S w A c us) (h2 : MapAt encStr w m2 es) (hk : Mods (fun b => b = m2) w w') : UI S w' A c us := by
  obtain ⟨L, e1, e2, e3, e4⟩ := h
  refine ⟨L, e1, e2.of_block fun b hb => hk.block b (e2.blk_lt b hb).2 ?_, e3, fun p hp => (e4 p hp).of_block fun b hb => hk.block b ((e4 p hp).1.blk_lt b hb).2 ?_⟩
  · rintro rfl
    obtain ⟨cs, hc⟩ := e2.blk _ hb
    exact h2.ne_cells hc rfl
  · rintro rfl
    obtain ⟨cs, hc⟩ := (e4 p hp).1.blk _ hb
    exact h2.ne_cells hc rfl
theorem doF_small {F : FS} (h : ∀ k l, fget F k = some l → l.length ≤ 4194304) {w : Wr} (hw : w.ok) : ∀ k l, fget (doF F w) k = some l → l.length ≤ 4194304 := by
  obtain ⟨hk, ho⟩ := hw
  have hold : ((fget F w.name).getD []).length ≤ 4194304 := by
    cases hg : fget F w.name with
    | none => simp
    | some l => exact h _ _ hg
  intro k l hl
  unfold doF at hl
  split at hl
  · rw [fget_fset] at hl
    split at hl
    · injection hl with hl
      rw [← hl, putD_len]
      omega
    · exact h _ _ hl
  · split at hl
    · rw [fget_fset] at hl
      split at hl
      · injection hl with hl
        rw [← hl, resizeD_len]
        omega
      · exact h _ _ hl
    · split at hl
      · rw [fget_fdel] at hl
        split at hl
        · cases hl
        · exact h _ _ hl
      · exact h _ _ hl

section
variable {S : Nat → Prop} {w : World} {g : Nat} {D : DSt}
set_option maxHeartbeats 1000000 in
theorem diskAlive (h : DI S w g D) : Calls Tryd.prog 37 #[.pointer (some ⟨g, 0, none⟩)] w fun e w' => e = .returned (.int .i64 (if D.down = true then 11 else 0)) ∧ w = w' := by
  obtain ⟨mf, ms, A, c, r⟩ := h
  have h1 := r.blk
  have c5 := h1.cell 5 rfl
  clear h1 r
  cases hd : D.down
  · rw [hd] at c5
    go_enter Tryd.func37, Tryd.ntmps37
    go_wp2_with fail
    go_ret
    exact ⟨rfl, rfl⟩
  · rw [hd] at c5
    go_enter Tryd.func37, Tryd.ntmps37
    go_wp2_with fail
    go_ret
    exact ⟨rfl, rfl⟩
set_option maxHeartbeats 1000000 in
theorem diskAlive_nil : Calls Tryd.prog 37 #[.pointer none] w fun e w' => e = .returned (.int .i64 1) ∧ w = w' := by
  go_enter Tryd.func37, Tryd.ntmps37
  go_wp2_with fail
  go_ret
  exact ⟨rfl, rfl⟩
end
end Go.Proofs.YthdmnajcphaekaaDoor
