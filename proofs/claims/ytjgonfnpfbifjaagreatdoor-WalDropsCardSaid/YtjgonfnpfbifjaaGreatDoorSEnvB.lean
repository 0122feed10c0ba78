/- SEnvB: put together by merge.py of: SEnvA, SEnvL. -/
import Derived.Test.YtjgonfnpfbifjaaGreatDoorSlotNum
import Derived.Test.YtjgonfnpfbifjaaGreatDoorLaid
import Derived.Test.YtjgonfnpfbifjaaGreatDoorFr
import Derived.Test.YtjgonfnpfbifjaaGreatDoorScrI
import Derived.Test.YtjgonfnpfbifjaaGreatDoorReadE
import Derived.Test.YtjgonfnpfbifjaaGreatDoorDiskQ
import Derived.WalkLawsBesides
import Derived.Lib.AtoiErrMem
import Derived.Deep.QuietTactic
import Derived.ProofKit
/- What the program's variables hold, for files' names; strconv.ParseUint. -/
namespace Go.Proofs.YtjgonfnpfbifjaaGreatDoor
open Go.RowKit
open Go.Lib (parseUintB decDigits hasPrefix trimPrefix)

/-- What the program's variables hold. -/
structure SEnv (B : Nat) (w : World) : Prop where
  pow : ∀ w', Below B w w' → Pow w'
  syn : ∃ tp p, ∀ w', Below B w w' → w'.var? Tryz.prog "strconv.ErrSyntax" = some #[.iface tp p]
  rng : ∃ tp p, ∀ w', Below B w w' → w'.var? Tryz.prog "strconv.ErrRange" = some #[.iface tp p]
theorem SEnv.below {B : Nat} {w w' : World} (h : SEnv B w) (hb : Below B w w') : SEnv B w' := by
  obtain ⟨h1, ⟨a, b, h2⟩, ⟨c, d, h3⟩⟩ := h
  exact ⟨fun v hv => h1 v (hb.trans hv), ⟨a, b, fun v hv => h2 v (hb.trans hv)⟩, ⟨c, d, fun v hv => h3 v (hb.trans hv)⟩⟩
theorem SEnv.up {B B' : Nat} {w : World} (h : SEnv B w) (hB : B ≤ B') : SEnv B' w := by
  obtain ⟨h1, ⟨a, b, h2⟩, ⟨c, d, h3⟩⟩ := h
  exact ⟨fun v hv => h1 v (hv.mono hB), ⟨a, b, fun v hv => h2 v (hv.mono hB)⟩, ⟨c, d, fun v hv => h3 v (hv.mono hB)⟩⟩
theorem parseS (s : List UInt8) (B : Nat) (w : World) (hs : s.length ≤ 140737488351232) (hE : SEnv B w) :
    Calls Tryz.prog 48 #[.string ⟨s.toArray⟩, .int .i64 10, .int .i64 64] w fun e w' => Below w.heap.size w w' ∧
      ((∃ u, parseUintB 64 s = .ok u ∧ e = .returned (.tuple #[.int .u64 (u : Int), .nilIface])) ∨ ((∀ u, parseUintB 64 s ≠ .ok u) ∧ ∃ (n : Int) (N : Nat), e = .returned (.tuple #[.int .u64 n, .iface 140 (.pointer (some ⟨N, 0, none⟩))]))) := by
  have hsz : (⟨s.toArray⟩ : ByteArray).size = s.length := by simp [ByteArray.size]
  obtain ⟨_, ⟨a, b, h2⟩, ⟨c, d, h3⟩⟩ := hE
  cases hp : parseUintB 64 s
  · rename_i u
    refine (Tryz.strconv_ParseUint_10_at64_ok ⟨s.toArray⟩ (by rw [hsz]; omega) u hp w).mono ?_
    rintro e w' ⟨rfl, rfl | rfl⟩
    · exact ⟨Below.refl _ _, .inl ⟨u, rfl, rfl⟩⟩
    · exact ⟨Lib.bytesWorld_below _ _ _, .inl ⟨u, rfl, rfl⟩⟩
  · have C : Calls Tryz.prog 48 #[.string ⟨s.toArray⟩, .int .i64 10, .int .i64 64] w fun e w' => ∃ N, e = .returned (.tuple #[.int .u64 0, .iface 140 (.pointer (some ⟨N, 0, none⟩))]) ∧ w.heap.size ≤ N ∧ w'.heap[N]? = some (.cells #[.string ⟨#[80, 97, 114, 115, 101, 85, 105, 110, 116]⟩, .string ⟨s.toArray⟩, .iface a b] 169 (0, 0)) ∧ Below w.heap.size w w' := Any.strconv_ParseUint_10_at64_syntax_var Tryz.laysPu14 ⟨s.toArray⟩ (by rw [hsz]; omega) hp a b w (h2 w (Below.refl _ _))
    refine C.mono ?_
    rintro e w' ⟨N, rfl, _, _, hb⟩
    exact ⟨hb, .inr ⟨(fun u h => by cases h), _, N, rfl⟩⟩
  · refine (Tryz.strconv_ParseUint_10_at64_range_var ⟨s.toArray⟩ (by rw [hsz]; omega) hp c d w (h3 w (Below.refl _ _))).mono ?_
    rintro e w' ⟨N, rfl, _, _, hb⟩
    exact ⟨hb, .inr ⟨(fun u h => by cases h), _, N, rfl⟩⟩
end Go.Proofs.YtjgonfnpfbifjaaGreatDoor
/- What the listed variables hold, for files' names; a law's claim with the world's shape at hand. -/
namespace Go.Proofs.YtjgonfnpfbifjaaGreatDoor
open Go.RowKit

theorem iface_of_trod {H : Type} {enc : TypeId × Value → H} {P : Program} {w : World} {base : Nat} {sp : Nat → Bool} {held : Bool} {fuel : Nat} {t : TypeId} {ms : Array (String × TypeId)} {cs : List Value} {nm : String} {d : DataW H} {p : List MemPlace}
    (hi : P.underlying t = some (.interface ms)) (h : DataW.trod enc P w base sp held fuel t cs = some (.iface nm d, p)) : ∃ tp v, cs = [.iface tp v] := by
  cases fuel with
  | zero => simp [DataW.trod] at h
  | succ fuel =>
    simp only [DataW.trod, hi] at h
    split at h <;> first | exact ⟨_, _, rfl⟩ | (exfalso; simp_all; done) | skip
theorem iface_of_laid {P : Program} {w : World} {l : List (String × DataW Unit)} {n : String} {nm : String} {d : DataW Unit} {g : Nat} {t : TypeId} {ms : Array (String × TypeId)} (h : laidMet P l w) (hm : (n, (.iface nm d : DataW Unit)) ∈ l)
    (hg : P.globalNamed n = some g) (hty : (P.globals[g]?).map (·.type) = some t) (ht : P.underlying t = some (.interface ms)) : ∃ tp v, w.var? P n = some #[.iface tp v] := by
  obtain ⟨ps, hl, _⟩ := h
  obtain ⟨g', t', cs, fuel, p, h1, h2, h3, h4⟩ := laid_get hl hm
  obtain rfl := Option.some.inj (hg.symm.trans h1)
  obtain rfl := Option.some.inj (hty.symm.trans h2)
  obtain ⟨tp, v, e⟩ := iface_of_trod ht h4
  refine ⟨tp, v, ?_⟩
  rw [h3]
  congr 1
  exact Array.toList_inj.1 e
theorem senv_of {l : List (String × DataW Unit)} {w : World} (h : laidMetH Tryz.prog l w) (hp : (l.all fun x => x.2.handleName?.isNone) = true)
    (h1 : ("internal/strconv.uint64pow10", Rows.laid_internal_strconv_uint64pow10) ∈ l) (h3 : ("strconv.ErrSyntax", Rows.laid_strconv_ErrSyntax) ∈ l) (h4 : ("strconv.ErrRange", Rows.laid_strconv_ErrRange) ∈ l) : SEnv w.heap.size w := by
  rw [MakeChecks.laidMetH_plain _ _ _ hp] at h
  have t1 := tab_of_laid (g := 2) (t := 183) (e := 23) (m := 20) (zs := Lib.pow10Tab) (k := .u64) h h1 (by kernel_rfl) (by kernel_rfl) (by kernel_rfl) (by kernel_rfl) (by kernel_rfl) (by kernel_rfl)
  obtain ⟨a, b, hs⟩ := iface_of_laid (g := 0) (t := 94) h h3 (by kernel_rfl) (by kernel_rfl) Tryz.underlying94
  obtain ⟨c, d, hr⟩ := iface_of_laid (g := 1) (t := 94) h h4 (by kernel_rfl) (by kernel_rfl) Tryz.underlying94
  exact ⟨fun w' hb => var_below t1 hb, ⟨a, b, fun w' hb => var_below hs hb⟩, ⟨c, d, fun w' hb => var_below hr hb⟩⟩

theorem returns_shaped {H : Type} {enc : TypeId × Value → H} {a : Assume} {C : Checked} {os : Os} {f : FuncId} {fn : Func} {s : ChangeSpec} {conds : List PathCond} {apart fresh handsOn again : Bool} {X : World → Array Value → Prop}
    (hX : ∀ (w w' : World) (args : Array Value), w.heap = w'.heap → X w args → X w' args)
    (own : ownKnob C.prog.godebug = none) (started : os.Started) (noInit : C.prog.inits.idxOf? f = none) (hfn : C.prog.funcs[f]? = some fn)
    (witness : ∃ (w : World) (tape : Tape) (i : Input), w.os = os ∧ (w.forCall tape i).Shaped C.prog ∧ i.vars = [] ∧ Input.okWide C.prog (w.forCall tape i) .any w.heap.size f i ∧
      ((s.pre enc C.prog fn conds apart (w.forCall tape i).memory i.args ∧ X (w.forCall tape i).memory i.args) ∧ sizedMet enc C.prog fn (OpenSpec.ofChange s) apart (w.forCall tape i).memory i.args) ∧ a.holds C.prog (lone (Frame.enter C.prog f i.args .normal) [] (w.forCall tape i)))
    (contract : ∀ (W : World) (base : Nat) (args : Array Value) (ds gs : List (DataW H)) (before : List MemPlace),
      (∀ (j : Nat) t v, fn.params[j]? = some t → args[j]? = some v → Value.okWide C.prog W .any base t v) →
      DataW.Whole enc C.prog fn.params.toList s.vars apart W args.toList ds gs before →
      conds.all (PathCond.test C.prog ⟨fn.params.toList, ds, s.plain.varTypes C.prog, gs⟩) = true →
      (DataW.weightsEach C.prog (fn.params.toList ++ s.plain.varTypes C.prog) (ds ++ gs)).all (· ≤ reachBytes) = true → X W args → W.ShapedOpen C.prog →
      Calls C.prog f args W fun e W' => ∃ v, e = .returned v ∧ s.post enc C.prog fn apart fresh handsOn again W args v W') :
    ReturnsInHanded a C os f .any (fun w args => (s.pre enc C.prog fn conds apart w args ∧ X w args) ∧ sizedMet enc C.prog fn (OpenSpec.ofChange s) apart w args) (s.post enc C.prog fn apart fresh handsOn again) := by
  refine returnsInHanded_of_calls own started noInit witness ?_
  intro w tape i _ hsh _ hok hpre _
  obtain ⟨_, _, _, fn', hfn', _, _, _, _, hval⟩ := hok
  have e : fn' = fn := Option.some.inj (hfn'.symm.trans hfn)
  subst e
  obtain ⟨⟨⟨ds, gs, before, hw, hc⟩, hx⟩, hz⟩ := hpre
  have hw' := DataW.Whole.of_heap (w' := w.forCall tape i) (by rfl) hw
  refine (contract (w.forCall tape i) w.heap.size i.args ds gs before hval hw' hc (hz.weights hw) (hX _ _ _ (by rfl) hx) hsh).mono fun e W' ⟨v, he, hp⟩ => ?_
  subst he
  exact ChangeSpec.post_blind hp
end Go.Proofs.YtjgonfnpfbifjaaGreatDoor
