/- Made small by a program. -/
import Derived.Test.YtobdmlejabjmiaaGreatDoorZc19
import Derived.Test.YtobdmlejabjmiaaGreatDoorZc15
import Derived.Shelf.Strconv.Itoa4
import Derived.Lib.AppendIntMem
import Derived.BigCall
import Derived.BigGuard
import Derived.WalkLawsBesides
import Derived.Lib.AtoiErrMem
set_option maxRecDepth 20000
set_option maxHeartbeats 8000000
namespace Go.Proofs.YtobdmlejabjmiaaGreatDoor
open Go.RowKit Go.Sort Go.Lib
def Pow (w : World) : Prop := Lib.TabIs Tryz.prog w "internal/strconv.uint64pow10" .u64 Lib.pow10Tab
set_option maxRecDepth 100000 in
theorem zeE(u:Nat)(hu64:u<18446744073709551616)(w:World)(htab:Pow w) :
  Calls Tryz.prog 177 #[.int .u64 (u:Int),.int .i64 10] w fun e w'=>e=.returned (.string ⟨(Lib.decDigits u).toArray⟩)/\Below w.heap.size w w':=by
 by_cases hs:u<100
 ·go_enter Tryz.func177,Tryz.ntmps177;go_wp2_with (go_at_call 209;refine(Tryz.internal_strconv_small u hs _).mono ?_;rintro e w' ⟨rfl,rfl⟩);go_ret;exact⟨rfl,Below.refl _ _⟩
 ·have hu1:1<=u:=by omega
  have hnd20:Lib.nDigits u<=20:=by have:=Lib.numDigits_eq u hu1 hu64;split at this<;>omega
  have hal:Tryz.prog.arrayLen 273=24:=by kernel_rfl
  have hsl:∀W,(Instr.sliceAt 273 (.pointer (some ⟨w.heap.size,0,none⟩)) none (some (.int .i64 (Lib.nDigits u:Int))) none).run Tryz.prog W=.ok (.slice (some ⟨w.heap.size,0,none⟩) (Lib.nDigits u) 24) W:=fun W=>by
   rw[run_sliceAt_array_h W 273 ⟨w.heap.size,0,none⟩ (by kernel_rfl) .i64 (Lib.nDigits u:Int) (by omega) (by rw[hal];omega)]
   go_simp
  have hH0:=Lib.holds_zero0 w 273 (Lib.nDigits u) (by omega);have hfmt:=Tryz.internal_strconv_formatBase10 w.heap.size 0 24 u (Array.replicate (Lib.nDigits u) 0) (w.alloc (.cells Lib.zeros24 273)) hH0 (by rw[Array.size_replicate];exact Lib.lt_pow_nDigits u) hu64 (by rw[Array.size_replicate];omega);rw[Array.size_replicate] at hfmt;have HH0:=qh hH0;have iu:(100:Int)<=(u:Int):=by omega
  clear hH0 hal hs;go_enter Tryz.func177,Tryz.ntmps177;go_wp2_with (first
   | (go_at_call 210;refine(Tryz.internal_strconv_numDigits u hu1 hu64 _ (Lib.tabIs_alloc htab _)).mono ?_;rintro e w' ⟨rfl,rfl⟩))
  go_at_call 211
  refine hfmt.mono ?_;rintro e w' ⟨rfl,k,v',dk,rfl,hF⟩;have hcv:(convert 34 9 (.slice (some ⟨w.heap.size,0,none⟩) (Lib.nDigits u) 24)).run Tryz.prog ((putRow (fun(b:UInt8)=>Value.int .u8 (b.toNat:Int)) (w.alloc (.cells Lib.zeros24 273)) w.heap.size 0 dk).drewN k)=.ok (.string ⟨(Lib.decDigits u).toArray⟩) ((putRow (fun(b:UInt8)=>Value.int .u8 (b.toNat:Int)) (w.alloc (.cells Lib.zeros24 273)) w.heap.size 0 dk).drewN k):=by
   have h:=run_convert_bytes_back (P:=Tryz.prog) ((putRow (fun(b:UInt8)=>Value.int .u8 (b.toNat:Int)) (w.alloc (.cells Lib.zeros24 273)) w.heap.size 0 dk).drewN k) 34 9 5 ⟨w.heap.size,0,none⟩ 24 (Lib.decDigits u) Tryz.underlying34 Tryz.underlying5 Tryz.underlying9 (fun j hj=>by
    rw[Lib.row_is_numeral hF j hj,Lib.add_plain,World.cell?_drewN];exact cell?_putRow (fun(b:UInt8)=>Value.int .u8 (b.toNat:Int)) _ w.heap.size 0 _ dk HH0.out (by rw[hF.size,Array.size_replicate]) j (by rw[hF.size];rw[Lib.decDigits_length] at hj;exact hj))
   rw[Lib.decDigits_length] at h;exact h
  go_wp2;go_ret;obtain⟨os,eo⟩:=Lib.fin_at w (.cells Lib.zeros24 273) dk k 0;refine⟨rfl,?_⟩;rw[eo];exact Lib.below_grow _ _ (Nat.le_refl _) _ _
theorem zce(n:Int)(h0:0<=n)(h1:n<=18446744073709551615)(w:World)(ht:Pow w) :
  Calls Tryz.prog 128 #[.int .u64 n,.int .i64 10] w fun e w'=>e=.returned (.string ⟨(udec n).toArray⟩)/\Below w.heap.size w w':=by
 obtain⟨u,rfl⟩:=Int.eq_ofNat_of_zero_le h0;rw[j7];go_enter Tryz.func128,Tryz.ntmps128;go_wp2_with (go_at_call 177;refine(zeE u (by omega) _ ht).mono ?_);rintro e w' ⟨rfl,hb⟩;go_wp2_with fail;go_ret;exact⟨rfl,hb⟩
end Go.Proofs.YtobdmlejabjmiaaGreatDoor
namespace Go.Proofs.YtobdmlejabjmiaaGreatDoor
open Go.RowKit
open Go.Lib (parseUintB decDigits hasPrefix trimPrefix)
structure SEnv(B:Nat)(w:World):Prop where
 pow:∀w',Below B w w'->Pow w'
 syn : ∃ tp p, ∀ w', Below B w w' → w'.var? Tryz.prog "strconv.ErrSyntax" = some #[.iface tp p]
 rng : ∃ tp p, ∀ w', Below B w w' → w'.var? Tryz.prog "strconv.ErrRange" = some #[.iface tp p]
theorem SEnv.below{B:Nat}{w w':World}(h:SEnv B w)(hb:Below B w w'):SEnv B w':=by
 obtain⟨h1,⟨a,b,h2⟩,⟨c,d,h3⟩⟩:=h;exact⟨fun v hv=>h1 v (hb.trans hv),⟨a,b,fun v hv=>h2 v (hb.trans hv)⟩,⟨c,d,fun v hv=>h3 v (hb.trans hv)⟩⟩
theorem SEnv.up{B B':Nat}{w:World}(h:SEnv B w)(hB:B<=B'):SEnv B' w:=by
 obtain⟨h1,⟨a,b,h2⟩,⟨c,d,h3⟩⟩:=h;exact⟨fun v hv=>h1 v (hv.mono hB),⟨a,b,fun v hv=>h2 v (hv.mono hB)⟩,⟨c,d,fun v hv=>h3 v (hv.mono hB)⟩⟩
theorem ze0(s:List UInt8)(B:Nat)(w:World)(hs:s.length<=140737488351232)(hE:SEnv B w) :
  Calls Tryz.prog 122 #[.string ⟨s.toArray⟩,.int .i64 10,.int .i64 64] w fun e w'=>Below w.heap.size w w' /\
   ((∃u,parseUintB 64 s=.ok u/\e=.returned (.tuple #[.int .u64 (u:Int),.nilIface]))\/((∀u,parseUintB 64 s≠.ok u)/\∃(n:Int) (N:Nat),e=.returned (.tuple #[.int .u64 n,.iface 268 (.pointer (some ⟨N,0,none⟩))]))):=by
 have hsz:(⟨s.toArray⟩:ByteArray).size=s.length:=by simp[ByteArray.size]
 obtain⟨_,⟨a,b,h2⟩,⟨c,d,h3⟩⟩:=hE;cases hp:parseUintB 64 s
 ·rename_i u;refine(Tryz.strconv_ParseUint_10_at64_ok ⟨s.toArray⟩ (by rw[hsz];omega) u hp w).mono ?_;rintro e w' ⟨rfl,rfl | rfl⟩
  ·exact⟨Below.refl _ _,.inl ⟨u,rfl,rfl⟩⟩
  ·exact⟨Lib.bytesWorld_below _ _ _,.inl ⟨u,rfl,rfl⟩⟩
 ·have C:Calls Tryz.prog 122 #[.string ⟨s.toArray⟩,.int .i64 10,.int .i64 64] w fun e w'=>∃N,e=.returned (.tuple #[.int .u64 0,.iface 268 (.pointer (some ⟨N,0,none⟩))])/\w.heap.size<=N/\w'.heap[N]?=some (.cells #[.string ⟨#[80,97,114,115,101,85,105,110,116]⟩,.string ⟨s.toArray⟩,.iface a b] 297 (0,0))/\Below w.heap.size w w':=Any.strconv_ParseUint_10_at64_syntax_var Tryz.laysPu14 ⟨s.toArray⟩ (by rw[hsz];omega) hp a b w (h2 w (Below.refl _ _))
  refine C.mono ?_;rintro e w' ⟨N,rfl,_,_,hb⟩;exact⟨hb,.inr ⟨(fun u h=>by cases h),_,N,rfl⟩⟩
 ·refine(Tryz.strconv_ParseUint_10_at64_range_var ⟨s.toArray⟩ (by rw[hsz];omega) hp c d w (h3 w (Below.refl _ _))).mono ?_;rintro e w' ⟨N,rfl,_,_,hb⟩;exact⟨hb,.inr ⟨(fun u h=>by cases h),_,N,rfl⟩⟩
end Go.Proofs.YtobdmlejabjmiaaGreatDoor
namespace Go.Proofs.YtobdmlejabjmiaaGreatDoor
open Go.RowKit
theorem zaW{H:Type}{enc:TypeId × Value->H}{P:Program}{w:World}{base:Nat}{sp:Nat->Bool}{held:Bool}{fuel:Nat}{t:TypeId}{ms:Array (String × TypeId)}{cs:List Value}{nm:String}{d:DataW H}{p:List MemPlace}
  (hi:P.underlying t=some (.interface ms)) (h:DataW.trod enc P w base sp held fuel t cs=some (.iface nm d,p)):∃tp v,cs=[.iface tp v]:=by
 cases fuel with
 | zero=>simp[DataW.trod] at h
 | succ fuel =>
  simp only[DataW.trod,hi] at h;split at h<;>first | exact⟨_,_,rfl⟩ | (exfalso;simp_all;done) | skip
theorem jn{P:Program}{w:World}{l:List (String × DataW Unit)}{n:String}{nm:String}{d:DataW Unit}{g:Nat}{t:TypeId}{ms:Array (String × TypeId)}(h:laidMet P l w)(hm:(n,(.iface nm d:DataW Unit))∈l)
  (hg:P.globalNamed n=some g) (hty:(P.globals[g]?).map (·.type)=some t) (ht:P.underlying t=some (.interface ms)):∃tp v,w.var? P n=some #[.iface tp v]:=by
 obtain⟨ps,hl,_⟩:=h;obtain⟨g',t',cs,fuel,p,h1,h2,h3,h4⟩:=zaZ hl hm;obtain rfl:=Option.some.inj (hg.symm.trans h1);obtain rfl:=Option.some.inj (hty.symm.trans h2);obtain⟨tp,v,e⟩:=zaW ht h4;refine⟨tp,v,?_⟩;rw[h3];congr 1;exact Array.toList_inj.1 e
theorem senv_of{l:List (String × DataW Unit)}{w:World}(h:laidMetH Tryz.prog l w)(hp:(l.all fun x=>x.2.handleName?.isNone)=true)
  (h1 : ("internal/strconv.uint64pow10", Rows.laid_internal_strconv_uint64pow10) ∈ l) (h3 : ("strconv.ErrSyntax", Rows.laid_strconv_ErrSyntax) ∈ l) (h4 : ("strconv.ErrRange", Rows.laid_strconv_ErrRange) ∈ l) : SEnv w.heap.size w := by
 rw[MakeChecks.laidMetH_plain _ _ _ hp] at h;have t1:=zcL (g:=4) (t:=300) (e:=23) (m:=20) (zs:=Lib.pow10Tab) (k:=.u64) h h1 (by kernel_rfl) (by kernel_rfl) (by kernel_rfl) (by kernel_rfl) (by kernel_rfl) (by kernel_rfl);obtain⟨a,b,hs⟩:=jn (g:=2) (t:=193) h h3 (by kernel_rfl) (by kernel_rfl) Tryz.underlying193;obtain⟨c,d,hr⟩:=jn (g:=3) (t:=193) h h4 (by kernel_rfl) (by kernel_rfl) Tryz.underlying193;exact⟨fun w' hb=>qU t1 hb,⟨a,b,fun w' hb=>qU hs hb⟩,⟨c,d,fun w' hb=>qU hr hb⟩⟩
theorem zab{H:Type}{enc:TypeId × Value->H}{a:Assume}{C:Checked}{os:Os}{f:FuncId}{fn:Func}{s:ChangeSpec}{conds:List PathCond}{apart fresh handsOn again:Bool}{X:World->Array Value->Prop}
  (hX:∀(w w':World) (args:Array Value),w.heap=w'.heap->X w args->X w' args)
  (own:ownKnob C.prog.godebug=none) (started:os.Started) (noInit:C.prog.inits.idxOf? f=none) (hfn:C.prog.funcs[f]?=some fn)
  (witness:∃(w:World) (tape:Tape) (i:Input),w.os=os/\(w.forCall tape i).Shaped C.prog/\i.vars=[]/\Input.okWide C.prog (w.forCall tape i) .any w.heap.size f i /\
   ((s.pre enc C.prog fn conds apart (w.forCall tape i).memory i.args/\X (w.forCall tape i).memory i.args)/\sizedMet enc C.prog fn (OpenSpec.ofChange s) apart (w.forCall tape i).memory i.args)/\a.holds C.prog (lone (Frame.enter C.prog f i.args .normal) [] (w.forCall tape i)))
  (contract:∀(W:World) (base:Nat) (args:Array Value) (ds gs:List (DataW H)) (before:List MemPlace),
   (∀(j:Nat) t v,fn.params[j]?=some t->args[j]?=some v->Value.okWide C.prog W .any base t v) ->
   DataW.Whole enc C.prog fn.params.toList s.vars apart W args.toList ds gs before ->
   conds.all (PathCond.test C.prog ⟨fn.params.toList,ds,s.plain.varTypes C.prog,gs⟩)=true ->
   (DataW.weightsEach C.prog (fn.params.toList++s.plain.varTypes C.prog) (ds++gs)).all (·<=reachBytes)=true->X W args->W.ShapedOpen C.prog ->
   Calls C.prog f args W fun e W'=>∃v,e=.returned v/\s.post enc C.prog fn apart fresh handsOn again W args v W') :
  ReturnsInHanded a C os f .any (fun w args=>(s.pre enc C.prog fn conds apart w args/\X w args)/\sizedMet enc C.prog fn (OpenSpec.ofChange s) apart w args) (s.post enc C.prog fn apart fresh handsOn again):=by
 refine returnsInHanded_of_calls own started noInit witness ?_;intro w tape i _ hsh _ hok hpre _;obtain⟨_,_,_,fn',hfn',_,_,_,_,hval⟩:=hok;have e:fn'=fn:=Option.some.inj (hfn'.symm.trans hfn);subst e;obtain⟨⟨⟨ds,gs,before,hw,hc⟩,hx⟩,hz⟩:=hpre;have hw':=DataW.Whole.of_heap (w':=w.forCall tape i) (by rfl) hw;refine(contract (w.forCall tape i) w.heap.size i.args ds gs before hval hw' hc (hz.weights hw) (hX _ _ _ (by rfl) hx) hsh).mono fun e W' ⟨v,he,hp⟩=>?_
 subst he;exact ChangeSpec.post_blind hp
end Go.Proofs.YtobdmlejabjmiaaGreatDoor
namespace Go.Proofs.YtobdmlejabjmiaaGreatDoor
open Go.RowKit
open Go.Lib (parseUintB decDigits hasPrefix trimPrefix)
theorem cutPre(f x:List UInt8)(w:World):Calls Tryz.prog 121 #[.string ⟨f.toArray⟩,.string ⟨x.toArray⟩] w fun e w'=>e=.returned (.tuple #[.string ⟨(trimPrefix f x).toArray⟩,.bool (hasPrefix f x)])/\w'=w:=Tryz.strings_CutPrefix ⟨f.toArray⟩ ⟨x.toArray⟩ w
abbrev TS:TypeId:=108
section
variable {w:World} {p B:Nat} {cs:Array Value} {b:List UInt8}
theorem zbc(hb:Blk w p TS cs)(h1:cs[1]?=some (.string ⟨b.toArray⟩))(hbl:b.length<=8)(n:Nat)(hn:n<18446744073709551616)(hE:SEnv B w)(hB:B<=w.heap.size) :
  Calls Tryz.prog 63 #[.pointer (some ⟨p,0,none⟩),.int .u64 (n:Int)] w fun e w'=>e=.returned (.string ⟨(fileN b n).toArray⟩)/\Below w.heap.size w w':=by
 have hcat:=jE b [46] (by simp;omega);have hdl:(decDigits n).length<=20:=by rw[Go.Lib.decDigits_length];exact xg hn
 have hcat2:=jE (b++[46]) (decDigits n) (by simp;omega);have hn0:(0:Int)<=(n:Int):=by omega
 have hn1:(n:Int)<=18446744073709551615:=by omega
 have HE:=qh hE;have HBL:=qh hb;have HC1:=qh h1;clear hE hb hdl h1 hbl;go_enter Tryz.func63,Tryz.ntmps63;go_wp2_with fail;refine zf (by kernel_rfl) [(0,none),(1,none),(2,none),(3,none),(4,none),(5,none),(6,some [5]),(7,none),(8,none)] (by kernel_rfl) (by kernel_rfl) (by decide) ?_;intro wq hwq;have hBq:Below w.heap.size w wq:=by rw[hwq];exact(Below.refl _ _).drew
 have c1:=(HBL.out.kept hBq).cell 1 HC1.out;clear hwq;iterate 3 (refine zd ?_)
 refine ze [(⟨p,1,none⟩,.string ⟨b.toArray⟩)] ?_;iterate 2 (refine zd ?_)
 refine zh rfl (by rfl) (fun K hK=>?_)
 go_simp
 refine(zce (n:Int) hn0 hn1 wq (HE.out.pow wq (hBq.mono hB))).mono ?_;rintro e w1 ⟨rfl,hb1⟩;rw[j7];have hB1:=hBq.trans (hb1.mono hBq.size);clear hb1 c1;have c1:=(HBL.out.kept hB1).cell 1 HC1.out;refine zg hK ?_;clear hK K;iterate 2 (refine zd ?_)
 refine zk ?_;have HFE:Hid (fileN b n=b++46::decDigits n):=qh (by unfold fileN;simp);go_wp2_with fail;go_ret;exact⟨by rw[HFE.out];rfl,hB1⟩
def SNumE(o:Option Nat)(w:World)(e:Ending)(w':World):Prop :=
 Below w.heap.size w w'/\∃x:Int,e=.returned (.tuple #[.int .u64 x,.bool o.isSome])/\∀n,o=some n->x=(n:Int)
theorem zdZ(hb:Blk w p TS cs)(h1:cs[1]?=some (.string ⟨b.toArray⟩))(hbl:b.length<=8)(f:List UInt8)(hf:f.length<=1000)(hE:SEnv B w) :
  Calls Tryz.prog 58 #[.pointer (some ⟨p,0,none⟩),.string ⟨f.toArray⟩] w (SNumE (numN b f) w):=by
 have hcat:=jE b [46] (by simp;omega);have c1:=hb.cell 1 h1;have CP:=qh (cutPre f (b++[46]) w);have hlt:(trimPrefix f (b++[46])).length<=140737488351232:=by
  unfold trimPrefix;split
  ·rw[List.length_drop];omega
  ·omega
 have PU:=qh (ze0 (trimPrefix f (b++[46])) B w hlt hE);obtain⟨o,ho⟩:∃o,o=numN b f:=⟨_,rfl⟩;rw[<-ho];unfold numN at ho;clear hE hlt hb h1 hbl hf;cases hp:hasPrefix f (b++[46]) with
 | false =>
  rw[hp] at CP;rw[hp,if_neg (by simp)] at ho;have HO:=qh ho;clear ho hp;go_enter Tryz.func58,Tryz.ntmps58;go_wp2_with (go_at_call 121;refine CP.out.mono ?_);first | rintro e w1 ⟨rfl,rfl⟩ | rintro e w1 rfl rfl
  clear CP;go_wp2_with (go_at_call 122;refine PU.out.mono ?_);rintro e w1 ⟨hb1,⟨u,hu,rfl⟩ | ⟨hu,x,N,rfl⟩⟩;all_goals
   have HB1:=qh hb1;clear hb1 hu PU;go_wp2_with fail
   go_quiet (fail)
   go_wp2_with fail
   go_ret2
   exact⟨HB1.out.trans ((⟨rfl,rfl,rfl,Nat.le_refl _,fun _ _=>rfl⟩:Below w1.heap.size w1 (w1.drewN _)).mono HB1.out.size),_,by rw[HO.out];rfl,fun n hn=>by rw[HO.out] at hn;cases hn⟩
 | true =>
  rw[hp] at CP;rw[hp,if_pos rfl] at ho;have HO:=qh ho;clear ho hp;go_enter Tryz.func58,Tryz.ntmps58;go_wp2_with (go_at_call 121;refine CP.out.mono ?_);first | rintro e w1 ⟨rfl,rfl⟩ | rintro e w1 rfl rfl
  clear CP;go_wp2_with (go_at_call 122;refine PU.out.mono ?_);rintro e w1 ⟨hb1,⟨u,hu,rfl⟩ | ⟨hu,x,N,rfl⟩⟩
  ·have HO2:Hid (o=some u):=qh (by rw[HO.out,hu]);have HB1:=qh hb1;clear hb1 hu PU HO;go_wp2_with fail
   go_quiet (fail)
   go_wp2_with fail
   go_ret2
   exact⟨HB1.out.trans ((⟨rfl,rfl,rfl,Nat.le_refl _,fun _ _=>rfl⟩:Below w1.heap.size w1 (w1.drewN _)).mono HB1.out.size),_,by rw[HO2.out];rfl,fun n hn=>by rw[HO2.out] at hn;injection hn with hn;rw[hn]⟩
  ·have HO2:Hid (o=none):=qh (by
    rw[HO.out];split
    ·rename_i u h;exact absurd h (hu u)
    ·rfl)
   have HB1:=qh hb1;clear hb1 hu PU HO;go_wp2_with fail
   go_quiet (fail)
   go_wp2_with fail
   go_ret2
   exact⟨HB1.out.trans ((⟨rfl,rfl,rfl,Nat.le_refl _,fun _ _=>rfl⟩:Below w1.heap.size w1 (w1.drewN _)).mono HB1.out.size),_,by rw[HO2.out];rfl,fun n hn=>by rw[HO2.out] at hn;cases hn⟩
theorem zbb(hb:Blk w p TS cs)(d:Bool)(h1:cs[6]?=some (.bool d))(e0:Int) :
  Calls Tryz.prog 88 #[.pointer (some ⟨p,0,none⟩),.int .i64 e0] w fun e w'=>e=.returned (.int .i64 e0)/\w'=w.setCell ⟨p,6,none⟩ (.bool (d || decide (e0=11))):=by
 have c6:=hb.cell 6 h1;have f6:=hb.free 6;clear hb h1;cases d
 ·by_cases he:e0=11
  ·subst he;go_enter Tryz.func88,Tryz.ntmps88;go_wp2_with fail;go_ret;exact⟨rfl,rfl⟩
  ·have heb:(e0 == 11)=false:=(by simpa using he);have hed:decide (e0=11)=false:=(by simpa using he);rw[hed];clear hed;go_enter Tryz.func88,Tryz.ntmps88;go_wp2_with fail;go_ret;exact⟨rfl,rfl⟩
 ·go_enter Tryz.func88,Tryz.ntmps88;go_wp2_with fail;go_ret;exact⟨rfl,rfl⟩
end
end Go.Proofs.YtobdmlejabjmiaaGreatDoor
namespace Go.Proofs.YtobdmlejabjmiaaGreatDoor
open Go.RowKit
abbrev slotV(g:Nat)(s:Sl)(V:Option Addr)(cv:Nat)(O:Option Addr)(co:Nat):Array Value :=
 #[.pointer (some ⟨g,0,none⟩),.string ⟨s.base.toArray⟩,.int .u64 (s.last:Int),.slice V s.value.length cv,.bool s.has,.slice O s.old.length co,.bool s.down]
structure SR(B:Nat)(S:Nat->Prop)(w:World)(p g:Nat)(s:Sl)(D:DSt)(V:Option Addr)(cv:Nat)(O:Option Addr)(co:Nat):Prop where
 blk:Blk w p TS (slotV g s V cv O co)
 di:DI S w g D
 val:OB w B V cv s.value
 old:OV w B 9 O co (s.old.map encStr)
 ge:B<=p
 sge:∀b,S b->B<=b
 ps:¬S p
 vs:∀b,V.map (·.block)=some b->¬S b
 os:∀b,O.map (·.block)=some b->¬S b
 bl:s.base.length<=8
 on:∀f∈s.old,f.length<=1000
section
variable {B p g cv co:Nat} {S:Nat->Prop} {w w':World} {s s':Sl} {D D':DSt} {V O:Option Addr}
theorem SR.below(h:SR B S w p g s D V cv O co)(hb:Below w.heap.size w w'):SR B S w' p g s D V cv O co :=
 ⟨h.blk.kept hb,h.di.below hb,h.val.below hb,h.old.below hb,h.ge,h.sge,h.ps,h.vs,h.os,h.bl,h.on⟩
theorem SR.disk(h:SR B S w p g s D V cv O co)(hB:B<=w.heap.size)(hd:DI (Sx S w w') w' g D')(m:Mods S w w'):SR B (Sx S w w') w' p g s D' V cv O co :=
 ⟨h.blk.mods m h.ps,hd,h.val.mods m h.vs,h.old.mods m h.os,h.ge,fun b hb=>by
  rcases hb with hb | hb
  ·exact h.sge b hb
  ·have:=hb.1;omega,fun hb=>by
  rcases hb with hb | hb
  ·exact h.ps hb
  ·have:=hb.1;have:=h.blk.lt;omega,fun b hb hs=>by
  rcases hs with hs | hs
  ·exact h.vs b hb hs
  ·have:=hs.1;have:=(h.val.blk_in b hb).2;omega,fun b hb hs=>by
  rcases hs with hs | hs
  ·exact h.os b hb hs
  ·have:=hs.1;have:=(h.old.blk_lt b hb).2;omega,h.bl,h.on⟩
theorem SR.set(h:SR B S w p g s D V cv O co)(j:Nat)(v:Value)(hrow:(slotV g s V cv O co).setIfInBounds j v=slotV g s' V cv O co)(e1:s'.value=s.value)(e2:s'.old=s.old)(e3:s'.base=s.base):SR B S (w.setCell ⟨p,j,none⟩ v) p g s' D V cv O co:=by
 have m:Mods (·=p) w (w.setCell ⟨p,j,none⟩ v):=(Mods.refl (·=p) w).setCell ⟨p,_,none⟩ (.inl rfl) _;have hb:=h.blk.setCell j v;rw[hrow] at hb;exact⟨hb,h.di.mods m (fun b _ hs e=>h.ps (by rw[<-e];exact hs)),by rw[e1];exact h.val.mods m (fun k hk e=>h.val.ne_blk h.blk (by decide) (by rw[hk,e])),by rw[e2];exact h.old.mods m (fun k hk e=>h.old.ne_blk h.blk (by decide) (by rw[hk,e])),h.ge,h.sge,h.ps,h.vs,h.os,by rw[e3];exact h.bl,by rw[e2];exact h.on⟩
theorem SR.setOld(h:SR B S w p g s D V cv O co){O':Option Addr}{co':Nat}{l:List Nm}(ho:OV w B 9 O' co' (l.map encStr))(hs:∀b,O'.map (·.block)=some b->¬S b)(hl:∀f∈l,f.length<=1000):SR B S (w.setCell ⟨p,5,none⟩ (.slice O' l.length co')) p g { s with old:=l } D V cv O' co':=by
 have m:Mods (·=p) w (w.setCell ⟨p,5,none⟩ (.slice O' l.length co')):=(Mods.refl (·=p) w).setCell ⟨p,_,none⟩ (.inl rfl) _;exact⟨h.blk.setCell 5 _,h.di.mods m (fun b _ hs e=>h.ps (by rw[<-e];exact hs)),h.val.mods m (fun k hk e=>h.val.ne_blk h.blk (by decide) (by rw[hk,e])),ho.mods m (fun k hk e=>ho.ne_blk h.blk (by decide) (by rw[hk,e])),h.ge,h.sge,h.ps,h.vs,hs,h.bl,hl⟩
theorem SR.setVal(h:SR B S w p g s D V cv O co){V':Option Addr}{cv':Nat}{l:List UInt8}(ho:OB w B V' cv' l)(hs:∀b,V'.map (·.block)=some b->¬S b):SR B S (w.setCell ⟨p,3,none⟩ (.slice V' l.length cv')) p g { s with value:=l } D V' cv' O co:=by
 have m:Mods (·=p) w (w.setCell ⟨p,3,none⟩ (.slice V' l.length cv')):=(Mods.refl (·=p) w).setCell ⟨p,_,none⟩ (.inl rfl) _;exact⟨h.blk.setCell 3 _,h.di.mods m (fun b _ hs e=>h.ps (by rw[<-e];exact hs)),ho.mods m (fun k hk e=>ho.ne_blk h.blk (by decide) (by rw[hk,e])),h.old.mods m (fun k hk e=>h.old.ne_blk h.blk (by decide) (by rw[hk,e])),h.ge,h.sge,h.ps,hs,h.os,h.bl,h.on⟩
def SDone(B:Nat)(S:Nat->Prop)(w:World)(V0:Option Addr)(p g:Nat)(v:Value)(s':Sl)(D':DSt)(e:Ending)(w':World):Prop :=
 e=.returned v/\∃(S':Nat->Prop) (V:Option Addr) (cv:Nat) (O:Option Addr) (co:Nat),SR B S' w' p g s' D' V cv O co/\(∀b,S' b->S b\/w.heap.size<=b)/\Mods (fun b=>S b\/b=p) w w'/\∀b,V.map (·.block)=some b->V0.map (·.block)=some b\/w.heap.size<=b
theorem zag(D:DSt)(c:Wr)(off:Int):(changeD D c off).2.cnt<=D.cnt+1:=by
 unfold changeD;split
 ·exact Nat.le_succ _
 ·split
  ·simp only[DSt.cnt,zC,zo];omega
  ·simp only[DSt.cnt,zC,zo,List.length_append,List.length_cons,List.length_nil];omega
theorem do_len(F:FS)(c:Wr):(doF F c).length<=F.length+1:=by
 unfold doF;split
 ·exact jX _ _ _
 ·split
  ·exact jX _ _ _
  ·split
   ·unfold fdel;have:=List.length_filter_le (fun p:Nm × List UInt8=>decide (p.1≠c.name)) F;omega
   ·omega
theorem zbp(D:DSt)(c:Wr)(off:Int):(changeD D c off).2.files.length<=D.files.length+1:=by
 unfold changeD;split
 ·exact Nat.le_succ _
 ·split
  ·rw[zF];omega
  ·have e:({ burnD D with unsure:=(burnD D).unsure++[c] }:DSt).files=doF D.files c:=by
    unfold DSt.files;simp only[zC,zo,List.foldl_append,List.foldl_cons,List.foldl_nil]
   rw[e];exact do_len _ _
theorem sync_cnt(D:DSt):(syncD D).2.cnt<=D.cnt+D.files.length:=by
 unfold syncD;split
 ·exact Nat.le_add_right _ _
 ·split
  ·simp only[DSt.cnt,zC,zo];omega
  ·simp only[DSt.cnt,List.length_nil];omega
def CleanAt(B:Nat)(S:Nat->Prop)(w:World)(p g:Nat)(s:Sl)(D:DSt)(V:Option Addr)(cv:Nat)(O:Option Addr)(co:Nat)(k:Nat)(wr:World):Prop :=
 ∃(S':Nat->Prop) (Dk:DSt),SR B S' wr p g s Dk V cv O co/\(∀b,S' b->S b\/w.heap.size<=b)/\Mods (fun b=>S b\/b=p) w wr/\cleanL s.old D=cleanL (s.old.drop k) Dk/\Dk.cnt<=D.cnt+k
theorem qP(h:SR B S w p g s D V cv O co)(hB:B<=w.heap.size)(hcnt:D.cnt+s.old.length<=1000000) :
  Calls Tryz.prog 64 #[.pointer (some ⟨p,0,none⟩)] w
   (SDone B S w V p g (.int .i64 (cleanD s.old D).1) { s with old:=if (cleanL s.old D).1=0 then [] else s.old,down:=s.down || decide ((cleanD s.old D).1=11) } (cleanD s.old D).2):=by
 have c5:w.cell? ⟨p,5,none⟩=some (.slice O s.old.length co):=h.blk.cell 5 rfl;obtain⟨r,hr⟩:∃r,r=cleanD s.old D:=⟨_,rfl⟩;obtain⟨s1,hs1⟩:∃s1:Sl,s1={ s with old:=if (cleanL s.old D).1=0 then [] else s.old,down:=s.down || decide (r.1=11) }:=⟨_,rfl⟩;rw[<-hr,<-hs1];have HRR:=qh hr;have HS1:=qh hs1;clear hr hs1;by_cases h0:s.old=[]
 ·have HF:Hid (SDone B S w V p g (.int .i64 r.1) s1 r.2 (.returned (.int .i64 0)) w):=qh (by
   have er:r=(0,D):=(by rw[HRR.out];unfold cleanD;rw[if_pos h0]);have e:s1=s:=by
    rw[HS1.out,er];obtain⟨a1,a2,a3,a4,a5,a6⟩:=s;simp only at h0;subst h0;simp
   rw[e,er];exact⟨rfl,S,V,cv,O,co,h,fun b hb=>.inl hb,Mods.refl _ _,fun _ h=>.inl h⟩)
  rw[show s.old.length=0 from by rw[h0];rfl] at c5;clear h h0 hcnt HRR HS1;go_enter Tryz.func64,Tryz.ntmps64;go_wp2_with fail;go_ret;exact HF.out
 ·have hlen:0<s.old.length:=List.length_pos_iff.2 h0;have hne:((s.old.length:Int) == 0)=false:=by rw[beq_eq_false_iff_ne];omega
  have HA:Hid (CleanAt B S w p g s D V cv O co 0 w):=qh ⟨S,D,h,fun b hb=>.inl hb,Mods.refl _ _,rfl,Nat.le_refl _⟩;have hcap:=h.old.cap;rw[List.length_map] at hcap;have H0:=qh h0;clear h h0;go_enter Tryz.func64,Tryz.ntmps64;go_wp2_with fail;go_loopw [17] (fun i wr=>∃k:Nat,k<=s.old.length/\i=.int .i64 (k:Int)/\Hid (CleanAt B S w p g s D V cv O co k wr)) (fun i _=>s.old.length - (intOf i).toNat)
  case atStart=>exact⟨0,Nat.zero_le _,rfl,HA⟩
  case round =>
   obtain⟨k,hk,rfl,HC⟩:=hrel;obtain⟨S',Dk,hr,hS',hm,hcl,hck⟩:=HC.out;by_cases hlt:k<s.old.length
   ·have hki:(k:Int)<(s.old.length:Int):=(by omega);have hki0:(0:Int)<=(k:Int):=(by omega);obtain⟨b,off,rfl,hbl,hc⟩:=hr.old.rv.cell (j:=k) (by simpa using hlt);have hf:(s.old.map encStr)[k]'(by simpa using hlt)=.string ⟨s.old[k].toArray⟩:=(by simp[encStr]);rw[hf] at hc;have hfl:=hr.on _ (List.getElem_mem hlt);have hdrop:s.old.drop k=s.old[k]::s.old.drop (k+1):=List.drop_eq_getElem_cons hlt;obtain⟨q,hq⟩:∃q,q=rmD Dk s.old[k]:=⟨_,rfl⟩;have hrm:=xX s.old[k] hr.di (by omega) (by omega);rw[show changeD Dk ⟨3,s.old[k],0,[]⟩ 0=q from hq.symm] at hrm;have RM:=qh hrm;have HQC:Hid (q.2.cnt<=D.cnt+(k+1)):=qh (by rw[hq];unfold rmD;have:=zag Dk ⟨3,s.old[k],0,[]⟩ 0;omega);have HCL:Hid (cleanL s.old D=if q.1=0 then cleanL (s.old.drop (k+1)) q.2 else q):=qh (by rw[hcl,hdrop,cleanL,hq]);have d0:wr.cell? ⟨p,0,none⟩=some (.pointer (some ⟨g,0,none⟩)):=hr.blk.cell 0 rfl;have HR:=qh hr;have HM:=qh hm;have HS':=qh hS';generalize s.old[k]=f at *;clear hr hf HC hdrop hfl hcl hck hrm hq hm hS';go_wp2_with (go_at_call 31;refine RM.out.mono ?_);rintro e w1 ⟨rfl,hd1,m1⟩;have hR1:=HR.out.disk (Nat.le_trans hB HM.out.size) hd1 m1;have DD:=qh (zbb hR1.blk s.down rfl q.1);have HR2:Hid (SR B (Sx S' wr w1) (w1.setCell ⟨p,6,none⟩ (.bool (s.down || decide (q.1=11)))) p g { s with down:=s.down || decide (q.1=11) } q.2 V cv _ co):=qh (hR1.set 6 _ rfl rfl rfl rfl);have HM2:Hid (Mods (fun b=>S b\/b=p) w (w1.setCell ⟨p,6,none⟩ (.bool (s.down || decide (q.1=11))))):=qh ((HM.out.trans m1 (fun i hi=>by
     rcases HS'.out i hi with h | h
     ·exact .inl (.inl h)
     ·exact .inr h)).setCell ⟨p,6,none⟩ (.inl (.inr rfl)) _)
    have HS2:Hid (∀b,Sx S' wr w1 b->S b\/w.heap.size<=b):=qh (fun b hb=>by
     rcases hb with hb | hb
     ·exact HS'.out b hb
     ·exact .inr (Nat.le_trans HM.out.size hb.1))
    clear hd1 m1 hR1 RM HR HM HS' d0;go_wp2_with (go_at_call 88;refine DD.out.mono ?_);rintro e w2 ⟨rfl,rfl⟩;clear DD;by_cases hq0:q.1=0
    ·have e1:({ s with down:=s.down || decide (q.1=11) }:Sl)=s:=by
      rw[hq0];obtain⟨a1,a2,a3,a4,a5,a6⟩:=s;simp
     rw[e1] at HR2;have HA2:Hid (CleanAt B S w p g s D V cv _ co (k+1) (w1.setCell ⟨p,6,none⟩ (.bool (s.down || decide (q.1=11))))):=qh ⟨_,q.2,HR2.out,HS2.out,HM2.out,by rw[HCL.out,if_pos hq0],HQC.out⟩;rw[hq0];rw[hq0] at HA2;simp only[show decide ((0:Int)=11)=false from rfl,Bool.or_false] at HA2;clear HR2 HS2 HM2 HCL HQC e1 hq0;go_wp2_with fail;go_roundw
     case rel=>exact⟨k+1,by omega,by go_num,HA2⟩
     case measure=>simp[intOf];omega
    ·have er:r=q:=by
      rw[HRR.out];unfold cleanD;rw[if_neg H0.out,HCL.out,if_neg hq0,if_neg hq0]
     have hqb:(q.1 == 0)=false:=(by simpa using hq0);have HF:Hid (SDone B S w V p g (.int .i64 r.1) s1 r.2 (.returned (.int .i64 q.1)) (w1.setCell ⟨p,6,none⟩ (.bool (s.down || decide (q.1=11))))):=qh (by
      rw[er];refine⟨rfl,_,V,cv,some ⟨b,off,none⟩,co,?_,HS2.out,HM2.out,fun _ h=>.inl h⟩;rw[HS1.out,HCL.out,if_neg hq0,if_neg hq0,er];exact HR2.out)
     clear HR2 HS2 HM2 HCL HQC er hq0 HRR HS1;go_wp2_with fail;go_ret;exact HF.out
   ·obtain rfl:k=s.old.length:=(by omega);have hcl0:cleanL s.old D=(0,Dk):=(by rw[hcl,List.drop_length];rfl);have hR1:=hr.setOld (O':=none) (co':=0) (l:=[]) (OV.nil _ _ _) (fun b hb=>by cases hb) (fun f hf=>by cases hf);simp only[List.length_nil] at hR1;have hm1:Mods (fun b=>S b\/b=p) w (wr.setCell ⟨p,5,none⟩ (.slice none 0 0)):=hm.setCell ⟨p,5,none⟩ (.inl (.inr rfl)) _;have f5:wr.frozen? ⟨p,5,none⟩=false:=hr.blk.free 5;have c5w:wr.cell? ⟨p,5,none⟩=some (.slice O s.old.length co):=hr.blk.cell 5 rfl;have d0:wr.cell? ⟨p,0,none⟩=some (.pointer (some ⟨g,0,none⟩)):=hr.blk.cell 0 rfl;have d0':(wr.setCell ⟨p,5,none⟩ (.slice none 0 0)).cell? ⟨p,0,none⟩=some (.pointer (some ⟨g,0,none⟩)):=hR1.blk.cell 0 rfl;have SY:=qh (xB hR1.di (by omega));have HR1:=qh hR1;have HM1:=qh hm1;have HS':=qh hS';have HCL:=qh hcl0;obtain⟨q,hq⟩:∃q,q=syncD Dk:=⟨_,rfl⟩;rw[<-hq] at SY;have er:r=q:=(by rw[HRR.out];unfold cleanD;rw[if_neg H0.out,hcl0,if_pos rfl,hq]);have HER:=qh er;clear hr hR1 hm1 hm hS' hcl0 hcl hck hq er HC;go_wp2_with (go_at_call 90;refine SY.out.mono ?_);rintro e w1 ⟨rfl,hd1,m1⟩;have hsz:(wr.setCell ⟨p,5,none⟩ (.slice none 0 0)).heap.size=wr.heap.size:=(by simp[World.setCell]);have hR2:=HR1.out.disk (Nat.le_trans hB HM1.out.size) hd1 m1;have DD:=qh (zbb hR2.blk s.down rfl q.1);have HF:Hid (SDone B S w V p g (.int .i64 r.1) s1 r.2 (.returned (.int .i64 q.1)) (w1.setCell ⟨p,6,none⟩ (.bool (s.down || decide (q.1=11))))):=qh (by
     refine⟨by rw[HER.out],Sx S' (wr.setCell ⟨p,5,none⟩ (.slice none 0 0)) w1,V,cv,none,0,?_,?_,?_,fun _ h=>.inl h⟩
     ·rw[HS1.out,HCL.out,if_pos rfl,HER.out];exact hR2.set 6 _ rfl rfl rfl rfl
     ·intro b hb
      rcases hb with hb | hb
      ·exact HS'.out b hb
      ·exact .inr (Nat.le_trans HM1.out.size hb.1)
     ·exact(HM1.out.trans m1 (fun i hi=>by
       rcases HS'.out i hi with h | h
       ·exact .inl (.inl h)
       ·exact .inr h)).setCell ⟨p,6,none⟩ (.inl (.inr rfl)) _)
    clear hd1 m1 hR2 SY HR1 HM1 HS' HCL HER d0 d0' f5 c5w hsz HRR HS1;go_wp2_with (go_at_call 88;refine DD.out.mono ?_);rintro e w2 ⟨rfl,rfl⟩;go_wp2_with fail;go_ret;exact HF.out
end
end Go.Proofs.YtobdmlejabjmiaaGreatDoor
