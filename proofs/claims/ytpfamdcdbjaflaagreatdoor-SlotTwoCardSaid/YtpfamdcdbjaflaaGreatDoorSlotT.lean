/- Slots of one disk side by side: plain facts of Open and Save among other files; a slot that another one's calls leave. -/
import Derived.Test.YtpfamdcdbjaflaaGreatDoorSlotM
namespace Go.Proofs.YtpfamdcdbjaflaaGreatDoor
open Go.RowKit

/-- An operation whose guard says yes, as one without a guard. -/
theorem wpList_bare {P : Program} {ops : Array Oper} {Q : Exit → Act → World → Prop} {a : Act} {w : World} {rest : List Oper} {dst : Option Tmp} {op : Op} {type : TypeId} {pos : String} {after : Array Edge} {guard : Option (Nat × Bool)}
    (hw : Region.wanted { dst, op, type, pos, after, guard } (yielded ops a.tmps) = true) (h : wpList P ops Q ({ dst, op, type, pos, after, guard := none } :: rest) a w) : wpList P ops Q ({ dst, op, type, pos, after, guard } :: rest) a w := by
  unfold wpList at h ⊢
  rw [if_pos hw]
  rw [if_pos (by rfl)] at h
  exact h
theorem scan_none {b : Nm} {F : FS} : ∀ (l : List Nm) (s : Sc), (∀ f ∈ l, numN b f = none) → l.foldl (scan1 b F) s = s := by
  intro l
  induction l with
  | nil => intro s _; rfl
  | cons f l ih =>
    intro s h
    rw [List.foldl_cons, scan_skip (h f (List.mem_cons_self ..))]
    exact ih s fun g hg => h g (List.mem_cons_of_mem _ hg)
theorem open_others {b : Nm} {D : DSt} (h : Rest D) (hn : ∀ p ∈ D.sure, numN b p.1 = none) : scanD b D = Sc.zero ∧ openD b D = (0, D) := by
  have hs : scanD b D = Sc.zero := by
    rw [h.scan]
    exact scan_none _ _ fun f hf => by
      obtain ⟨p, hp, rfl⟩ := List.mem_map.1 hf
      exact hn p hp
  refine ⟨hs, ?_⟩
  unfold openD
  rw [hs]
  exact clean_none D
theorem fget_among {F1 F2 : FS} {f : Nm} {X : List UInt8} (h : ∀ p ∈ F1, p.1 ≠ f) : fget (F1 ++ (f, X) :: F2) f = some X := by
  induction F1 with
  | nil => rw [List.nil_append, fget_cons, if_pos rfl]
  | cons p F ih =>
    obtain ⟨a, Z⟩ := p
    rw [List.cons_append, fget_cons, if_neg (h _ (List.mem_cons_self ..))]
    exact ih fun q hq => h q (List.mem_cons_of_mem _ hq)
theorem open_among {b : Nm} {D : DSt} (h : Rest D) {n : Nat} {x : List UInt8} (hx : x.length ≤ 65520) (hn : n < 18446744073709551616) {F1 F2 : FS} (hs : D.sure = F1 ++ (fileN b n, frameB x) :: F2) (h1 : ∀ p ∈ F1, numN b p.1 = none) (h2 : ∀ p ∈ F2, numN b p.1 = none) :
    scanD b D = ⟨n, n, true, x, [fileN b n]⟩ ∧ openD b D = (0, D) := by
  have hg : fget D.sure (fileN b n) = some (frameB x) := by
    rw [hs]
    refine fget_among fun p hp e => ?_
    have := h1 p hp
    rw [e, numN_file b hn] at this
    cases this
  have hsc : scanD b D = ⟨n, n, true, x, [fileN b n]⟩ := by
    rw [h.scan, show D.sure.map Prod.fst = F1.map Prod.fst ++ fileN b n :: F2.map Prod.fst from by rw [hs]; simp, List.foldl_append, List.foldl_cons]
    rw [scan_none (F1.map Prod.fst) _ (fun f hf => by obtain ⟨p, hp, rfl⟩ := List.mem_map.1 hf; exact h1 p hp), scan_good hn hx hg, if_pos (.inl rfl)]
    rw [scan_none (F2.map Prod.fst) _ (fun f hf => by obtain ⟨p, hp, rfl⟩ := List.mem_map.1 hf; exact h2 p hp)]
    simp [Sc.zero]
  refine ⟨hsc, ?_⟩
  unfold openD
  rw [hsc, show restN b ⟨n, n, true, x, [fileN b n]⟩ = [] from by simp [restN]]
  exact clean_none D
/-- A first Save that nothing hinders. -/
theorem save_first {b : Nm} (hb : BaseOk b) {s : Sl} {D : DSt} (hbase : s.base = b) (hup : s.down = false) (hold : s.old = []) (hl : s.last = 0) (h : Rest D) {x : List UInt8} (hx : x.length ≤ 65520) (hfn : fget D.sure (fileN b 1) = none) (hlen : D.sure.length < 4096) (hr : (fsize D.sure : Int) + x.length + 8 ≤ D.room) :
    saveS s D x = (0, ⟨b, 1, x, true, [fileN b 1], false⟩, { D with sure := fset D.sure (fileN b 1) (frameB x), unsure := [] }) := by
  have hn := nameOk_file hb (n := 1) (by decide)
  have hfs := h.files
  have hf := h.fu
  obtain ⟨f, hff⟩ : ∃ f, f = fileN b 1 := ⟨_, rfl⟩
  rw [← hff] at hn hfn
  have hre : refuseD D ⟨1, f, 0, frameB x⟩ 0 = 0 := by
    unfold refuseD
    have hfl := frame_len x
    rw [if_neg (by rw [h.dd]; simp), if_neg (by rw [hn]; simp), if_neg (by rw [hfs]; omega), if_neg]
    rintro ⟨h1, h2⟩
    have e0 : ((fget D.files f).getD []).length = 0 := by rw [hfs, hfn]; rfl
    simp only [e0, afterN, if_true] at h2
    rw [hfl, hfs] at h2
    have : max 0 (0 + (x.length + 8)) = x.length + 8 := by omega
    rw [this] at h2
    omega
  have e1 : putS D f x = (0, { D with unsure := [⟨1, f, 0, frameB x⟩] }) := by
    unfold putS changeD
    rw [if_neg (by rw [hre]; simp), burn_idle hf, if_neg (by rw [h.dd]; simp), h.un]; rfl
  have e2 : syncD { D with unsure := [⟨1, f, 0, frameB x⟩] } = (0, { D with sure := fset D.sure f (frameB x), unsure := [] }) := by
    rw [sync_idle (D := { D with unsure := [⟨1, f, 0, frameB x⟩] }) h.dd hf]
    simp only [DSt.files, List.foldl_cons, List.foldl_nil, doF, if_true, hfn, Option.getD_none, putD_new]
  unfold saveS
  rw [if_neg (by rw [hup]; simp), if_neg (by omega), hbase, hl, Nat.zero_add, ← hff, e1]
  simp only
  rw [if_neg (by simp), e2]
  simp only
  rw [if_neg (by simp), hold, clean_none]
  simp
section
variable {B p p' g cv co cv' co' : Nat} {S S' T : Nat → Prop} {w w' : World} {s s' : Sl} {D D' : DSt} {V O V' O' : Option Addr}
/-- A slot that another one's call leaves. -/
theorem SR.other (h : SR B S w p g s D V cv O co) (hB : B ≤ w.heap.size) (h' : SR B S' w' p' g s' D' V' cv' O' co') (hn : ∀ b, S' b → S b ∨ w.heap.size ≤ b) (m : Mods T w w') (hp : ¬ T p) (hv : ∀ b, V.map (·.block) = some b → ¬ T b) (ho : ∀ b, O.map (·.block) = some b → ¬ T b) : SR B S' w' p g s D' V cv O co :=
  ⟨h.blk.mods m hp, h'.di, h.val.mods m hv, h.old.mods m ho, h.ge, h'.sge, fun hb => by
    rcases hn _ hb with hb | hb
    · exact h.ps hb
    · have := h.blk.lt; omega, fun b hb hs => by
    rcases hn _ hs with hs | hs
    · exact h.vs b hb hs
    · have := (h.val.blk_in b hb).2; omega, fun b hb hs => by
    rcases hn _ hs with hs | hs
    · exact h.os b hb hs
    · have := (h.old.blk_lt b hb).2; omega, h.bl, h.on⟩
end
/-- Open on a disk at rest where it changes nothing. -/
theorem srOpen {B g : Nat} {S : Nat → Prop} {w : World} {D : DSt} {b : Nm} (h : DI S w g D) (hsge : ∀ x, S x → B ≤ x) (hB : B ≤ w.heap.size) (hE : SEnv B w) (hb : BaseOk b) (hr : Rest D) (hcnt : D.sure.length ≤ 1000) (hnm : ∀ p ∈ D.sure, nameOk p.1 = true) (hcan : ∀ p ∈ D.sure, numN b p.1 = none ∨ ∃ k, k < 18446744073709551616 ∧ p.1 = fileN b k) {sc : Sc} (hs : scanD b D = sc ∧ openD b D = (0, D)) :
    Calls Tryz.prog 10 #[.pointer (some ⟨g, 0, none⟩), .string ⟨b.toArray⟩] w (OpenEnd B S w g (openS b sc) D) := by
  have hc : D.cnt ≤ 1000 := by unfold DSt.cnt; rw [hr.un]; simpa using hcnt
  have h1 := slotOpen h hsge hB hE hb hr.dd hc (by rw [hr.files]; exact hnm) (fun f hf n hn => by
    rw [hr.names] at hf
    obtain ⟨p, hp, rfl⟩ := List.mem_map.1 hf
    rcases hcan p hp with h1 | ⟨k, hk, h1⟩
    · rw [h1] at hn; cases hn
    · rw [h1, numN_file b hk] at hn
      injection hn with hn
      subst hn
      exact ⟨h1, hk⟩) (by rw [hs.2])
  rw [hs.1, hs.2] at h1
  exact h1
/-- The first Save of a slot that has none. -/
theorem srSave1 {B p g cv co : Nat} {S : Nat → Prop} {w : World} {D : DSt} {b : Nm} {V O : Option Addr} (h : SR B S w p g (openS b Sc.zero) D V cv O co) (hB : B ≤ w.heap.size) (hE : SEnv B w) (hb : BaseOk b) (hr : Rest D) (x : List UInt8) (Y : Option Addr) (cy : Nat) (hY : RB w Y x) (hYS : 0 < x.length → ∀ b, Y.map (·.block) = some b → ¬ S b ∧ b ≠ p) (hx : x.length ≤ 65520) (hfn : fget D.sure (fileN b 1) = none) (hlen : D.sure.length ≤ 500) (hroom : (fsize D.sure : Int) + x.length + 8 ≤ D.room) :
    Calls Tryz.prog 13 #[.pointer (some ⟨p, 0, none⟩), .slice Y x.length cy] w (SDone B S w V p g (.int .i64 0) ⟨b, 1, x, true, [fileN b 1], false⟩ { D with sure := fset D.sure (fileN b 1) (frameB x), unsure := [] }) := by
  have e := save_first hb (s := openS b Sc.zero) rfl rfl rfl rfl hr hx hfn (by omega) hroom
  have hc : D.cnt ≤ 1000 := by unfold DSt.cnt; rw [hr.un]; simp; omega
  have h1 := slotSave h hB hE rfl x Y cy hY hYS hx (by show 0 + 1 < _; omega) hc (by rw [hr.files]; omega) (by show ([] : List Nm).length ≤ 1000; simp)
  rw [e] at h1
  exact h1
/-- Two files of two slots. -/
theorem two_open {b c : Nm} (hb : BaseOk b) (hc : BaseOk c) (hne : b ≠ c) {D : DSt} (h : Rest D) {n k : Nat} {x y : List UInt8} (hx : x.length ≤ 65520) (hy : y.length ≤ 65520) (hn : n < 18446744073709551616) (hk : k < 18446744073709551616) (hs : D.sure = fset [(fileN b n, frameB x)] (fileN c k) (frameB y)) :
    (scanD b D = ⟨n, n, true, x, [fileN b n]⟩ ∧ openD b D = (0, D)) ∧ (scanD c D = ⟨k, k, true, y, [fileN c k]⟩ ∧ openD c D = (0, D)) := by
  have q1 := numN_other hb hc hne k
  have q2 := numN_other hc hb (Ne.symm hne) n
  have hne2 : fileN b n ≠ fileN c k := fun e => by rw [← e, numN_file b hn] at q1; cases q1
  rcases fset_two (X := frameB x) (Y := frameB y) hne2 with e | e <;> rw [e] at hs
  · exact ⟨open_among h hx hn (F1 := []) (F2 := [(fileN c k, frameB y)]) hs (by simp) (by simpa using q1), open_among h hy hk (F1 := [(fileN b n, frameB x)]) (F2 := []) hs (by simpa using q2) (by simp)⟩
  · exact ⟨open_among h hx hn (F1 := [(fileN c k, frameB y)]) (F2 := []) hs (by simpa using q1) (by simp), open_among h hy hk (F1 := []) (F2 := [(fileN b n, frameB x)]) hs (by simp) (by simpa using q2)⟩
end Go.Proofs.YtpfamdcdbjaflaaGreatDoor
