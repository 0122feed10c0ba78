/- Made small by a program. -/
import Derived.Test.YtobdmlejabjmiaaGreatDoorZd19
import Derived.Test.YtobdmlejabjmiaaGreatDoorZd15
import Derived.Lib.LaidTab
import Derived.MakeChecks
import Derived.Shelf.Strconv.Itoa4
import Derived.Lib.AppendIntMem
import Derived.BigCall
import Derived.BigGuard
import Derived.WalkLawsBesides
import Derived.Lib.AtoiErrMem
set_option maxRecDepth 20000
set_option maxHeartbeats 8000000
namespace Go.Proofs.YtobdmlejabjmiaaGreatDoor
open Go.Lib
structure Sl where
 base:Nm
 last:Nat
 value:List UInt8
 has:Bool
 old:List Nm
 down:Bool
def fileN(b:Nm)(n:Nat):Nm:=b++[46]++decDigits n
def numN(b f:Nm):Option Nat :=
 if hasPrefix f (b++[46])=true then(match parseUintB 64 (trimPrefix f (b++[46])) with | .ok u=>some u | _=>none) else none
structure Sc where
 last:Nat
 best:Nat
 has:Bool
 value:List UInt8
 old:List Nm
def Sc.zero:Sc:=⟨0,0,false,[],[]⟩
def scan1(b:Nm)(F:FS)(s:Sc)(f:Nm):Sc :=
 match numN b f with
 | none=>s
 | some n =>
  if (unfrAt ((fget F f).getD []) 0).2.2=0/\(unfrAt ((fget F f).getD []) 0).2.1=(((fget F f).getD []).length:Int)/\(s.has=false\/s.best<n) then
   ⟨max s.last n,n,true,(unfrAt ((fget F f).getD []) 0).1,s.old++[f]⟩
  else⟨max s.last n,s.best,s.has,s.value,s.old++[f]⟩
def scanD(b:Nm)(D:DSt):Sc:=(namesD D).foldl (scan1 b D.files) Sc.zero
def rmD(D:DSt)(f:Nm):Int × DSt:=changeD D ⟨3,f,0,[]⟩ 0
def cleanL:List Nm->DSt->Int × DSt
 | [],D=>(0,D)
 | f::r,D=>if (rmD D f).1=0 then cleanL r (rmD D f).2 else rmD D f
def cleanD(old:List Nm)(D:DSt):Int × DSt :=
 if old=[] then(0,D) else if (cleanL old D).1=0 then syncD (cleanL old D).2 else cleanL old D
def restN(b:Nm)(s:Sc):List Nm:=if s.has=true then s.old.filter (fun f=>!(f == fileN b s.best)) else s.old
def openD(b:Nm)(D:DSt):Int × DSt:=cleanD (restN b (scanD b D)) D
def openS(b:Nm)(s:Sc):Sl:=⟨b,s.last,s.value,s.has,if s.has=true then [fileN b s.best] else [],false⟩
def putS(D:DSt)(f:Nm)(x:List UInt8):Int × DSt:=changeD D ⟨1,f,0,frameB x⟩ 0
def saveS(s:Sl)(D:DSt)(x:List UInt8):Int × Sl × DSt :=
 if s.down=true then(11,s,D)
 else if 65520<x.length then(7,s,D)
 else if (putS D (fileN s.base (s.last+1)) x).1≠0 then((putS D (fileN s.base (s.last+1)) x).1,{ s with down:=decide ((putS D (fileN s.base (s.last+1)) x).1=11) },(putS D (fileN s.base (s.last+1)) x).2)
 else if (syncD (putS D (fileN s.base (s.last+1)) x).2).1≠0 then
  ((syncD (putS D (fileN s.base (s.last+1)) x).2).1,{ s with last:=s.last+1,down:=decide ((syncD (putS D (fileN s.base (s.last+1)) x).2).1=11) },(syncD (putS D (fileN s.base (s.last+1)) x).2).2)
 else((cleanD s.old (syncD (putS D (fileN s.base (s.last+1)) x).2).2).1,⟨s.base,s.last+1,x,true,[fileN s.base (s.last+1)],decide ((cleanD s.old (syncD (putS D (fileN s.base (s.last+1)) x).2).2).1=11)⟩,(cleanD s.old (syncD (putS D (fileN s.base (s.last+1)) x).2).2).2)
def loadE(s:Sl):Int:=if s.down=true then 11 else if s.has=false then 8 else 0
/-! ### Names -/
def BaseOk(b:Nm):Prop:=(1<=b.length/\b.length<=8)/\∀c∈b,97<=c.toNat/\c.toNat<=122
theorem set_of_range{c:UInt8}(h:(97<=c.toNat/\c.toNat<=122)\/(48<=c.toNat/\c.toNat<=57)):nameSet.contains c=true:=by
 have h256:c.toNat<256:=c.toNat_lt
 have e:c=UInt8.ofNat c.toNat:=by simp
 rw[List.contains_iff_mem,e]
 generalize c.toNat=n at *
 have hm:n∈nameSet.map UInt8.toNat:=by
  have:nameSet.map UInt8.toNat=[97,98,99,100,101,102,103,104,105,106,107,108,109,110,111,112,113,114,115,116,117,118,119,120,121,122,48,49,50,51,52,53,54,55,56,57,46]:=by decide
  rw[this]
  simp only[List.mem_cons,List.not_mem_nil,or_false]
  omega
 obtain⟨d,hd,rfl⟩:=List.mem_map.1 hm
 simpa using hd
theorem nameOk_file{b:Nm}(hb:BaseOk b){n:Nat}(hn:n<18446744073709551616):nameOk (fileN b n)=true:=by
 have h1:=nDigits_le hn
 have h2:(decDigits n).length<=20:=by rw[decDigits_length];exact h1
 unfold nameOk fileN
 rw[Bool.and_eq_true,decide_eq_true_eq,List.all_eq_true]
 refine⟨by simp only[List.length_append,List.length_cons,List.length_nil];have:=hb.1;omega,fun c hc=>?_⟩
 rcases List.mem_append.1 hc with hc | hc
 ·rcases List.mem_append.1 hc with hc | hc
  ·exact set_of_range (.inl (hb.2 c hc))
  ·rw[List.mem_singleton.1 hc];decide
 ·exact set_of_range (.inr (dec_range n c hc))
theorem numN_file(b:Nm){n:Nat}(hn:n<18446744073709551616):numN b (fileN b n)=some n:=by
 have h1:hasPrefix (fileN b n) (b++[46])=true:=by
  unfold hasPrefix fileN
  rw[List.isPrefixOf_iff_prefix]
  exact⟨_,rfl⟩
 have h2:trimPrefix (fileN b n) (b++[46])=decDigits n:=by
  unfold trimPrefix
  rw[if_pos h1]
  exact List.drop_left' rfl
 unfold numN
 rw[if_pos h1,h2,parseB_dec (by omega)]
/-! ### Frames -/
theorem frame_len(x:List UInt8):(frameB x).length=x.length+8:=by unfold frameB;simp[fourB]
theorem unfr_frame{x:List UInt8}(hx:x.length<=65520):unfrAt (frameB x) 0=(x,(x.length:Int)+8,0):=by
 have:=unfrAt_put [] x (frameB x) rfl (by omega)
 simp only[List.nil_append,List.length_nil] at this
 rw[show((0:Nat):Int)=0 from rfl] at this
 rw[this]
 congr 2
 omega
theorem unfr_cut{x:List UInt8}(hx:x.length<=65520){m:Nat}(hm:m<(frameB x).length):unfrAt ((frameB x).take m) 0=([],0,5):=unfrAt_cut x (frameB x) rfl (by omega) m hm
theorem scan_good{b:Nm}{F:FS}{s:Sc}{n:Nat}{x:List UInt8}(hn:n<18446744073709551616)(hx:x.length<=65520)(hf:fget F (fileN b n)=some (frameB x)) :
  scan1 b F s (fileN b n)=if s.has=false\/s.best<n then⟨max s.last n,n,true,x,s.old++[fileN b n]⟩ else⟨max s.last n,s.best,s.has,s.value,s.old++[fileN b n]⟩:=by
 unfold scan1
 rw[numN_file b hn,hf]
 simp only[Option.getD_some,unfr_frame hx,frame_len,true_and]
 by_cases h:s.has=false\/s.best<n
 ·rw[if_pos h,if_pos ⟨by omega,h⟩]
 ·rw[if_neg h,if_neg (fun e=>h e.2)]
theorem scan_bad{b:Nm}{F:FS}{s:Sc}{n m:Nat}{x:List UInt8}(hn:n<18446744073709551616)(hx:x.length<=65520)(hm:m<(frameB x).length)(hf:fget F (fileN b n)=some ((frameB x).take m)) :
  scan1 b F s (fileN b n)=⟨max s.last n,s.best,s.has,s.value,s.old++[fileN b n]⟩:=by
 unfold scan1
 rw[numN_file b hn,hf]
 simp only[Option.getD_some,unfr_cut hx hm]
 rw[if_neg (by simp)]
theorem scan_skip{b:Nm}{F:FS}{s:Sc}{f:Nm}(h:numN b f=none):scan1 b F s f=s:=by
 unfold scan1
 rw[h]
/-! ### Cleaning -/
theorem burn_idle{D:DSt}(h:D.fuse=0):burnD D=D:=by unfold burnD;rw[if_neg (by omega)]
theorem rm_idle{D:DSt}{f:Nm}(hd:D.down=false)(hf:D.fuse=0)(hn:nameOk f=true):rmD D f=(0,{ D with unsure:=D.unsure++[⟨3,f,0,[]⟩] }):=by
 have hr:refuseD D ⟨3,f,0,[]⟩ 0=0:=by
  unfold refuseD
  rw[if_neg (by rw[hd];simp),if_neg (by rw[hn];simp),if_neg (by simp),if_neg (by simp[afterN])]
 unfold rmD changeD
 rw[if_neg (by rw[hr];simp),burn_idle hf,if_neg (by rw[hd];simp)]
theorem sync_idle{D:DSt}(hd:D.down=false)(hf:D.fuse=0):syncD D=(0,{ D with sure:=D.files,unsure:=[] }):=by
 unfold syncD
 rw[if_neg (by rw[hd];simp),burn_idle hf,if_neg (by rw[hd];simp)]
theorem clean_none(D:DSt):cleanD [] D=(0,D):=by unfold cleanD;rw[if_pos rfl]
theorem clean_one{D:DSt}{f:Nm}(hd:D.down=false)(hf:D.fuse=0)(hu:D.unsure=[])(hn:nameOk f=true):cleanD [f] D=(0,{ D with sure:=fdel D.sure f,unsure:=[] }):=by
 have h:=rm_idle hd hf hn
 unfold cleanD
 rw[if_neg (by simp)]
 simp only[cleanL,h,if_true]
 rw[sync_idle (D:={ D with unsure:=D.unsure++[⟨3,f,0,[]⟩] }) hd hf]
 simp only[DSt.files,hu,List.nil_append,List.foldl_cons,List.foldl_nil,doF]
 rfl
/-! ### A slot and its disk -/
structure Rest(D:DSt):Prop where
 dd:D.down=false
 fu:D.fuse=0
 un:D.unsure=[]
theorem Rest.files{D:DSt}(h:Rest D):D.files=D.sure:=by unfold DSt.files;rw[h.un];rfl
theorem Rest.names{D:DSt}(h:Rest D):namesD D=D.sure.map Prod.fst:=by unfold namesD;rw[if_neg (by rw[h.dd];simp),h.files]
theorem Rest.scan{D:DSt}(h:Rest D)(b:Nm):scanD b D=(D.sure.map Prod.fst).foldl (scan1 b D.sure) Sc.zero:=by unfold scanD;rw[h.names,h.files]
/-! ### Save -/
theorem putD_new(x:List UInt8):putD [] 0 x=x:=by
 unfold putD resizeD
 simp
theorem fall_none{D:DSt}(h:D.unsure=[])(mask:Nat)(torn:Int):(fallD D mask torn).sure=D.sure:=by
 unfold fallD
 simp only[h,fallUs,keepAt,cutLast,List.foldl_nil]
theorem fall_rm{D:DSt}{f:Nm}(h:D.unsure=[⟨3,f,0,[]⟩])(mask:Nat)(torn:Int):(fallD D mask torn).sure=D.sure\/(fallD D mask torn).sure=fdel D.sure f:=by
 unfold fallD
 simp only[h,fallUs,keepAt]
 split
 ·refine .inr ?_
  simp only[cutLast,List.any_nil,Bool.false_eq_true,if_false]
  rw[if_neg (show ¬isPut ⟨3,f,0,[]⟩=true from by unfold isPut;simp)]
  simp only[List.foldl_cons,List.foldl_nil,doF]
  rfl
 ·exact .inl rfl
end Go.Proofs.YtobdmlejabjmiaaGreatDoor
namespace Go.Proofs.YtobdmlejabjmiaaGreatDoor
open Go.RowKit
theorem var_below{P:Program}{w w':World}{n:String}{cs:Array Value}(h:w.var? P n=some cs)(hb:Below w.heap.size w w'):w'.var? P n=some cs:=by
 unfold World.var? at *
 cases hg:P.globalNamed n with
 | none=>simp[hg] at h
 | some g =>
  simp only[hg,Option.bind_some] at h ⊢
  have hlt:g<w.heap.size:=by
   rcases Nat.lt_or_ge g w.heap.size with h' | h'
   ·exact h'
   ·rw[Array.getElem?_eq_none h'] at h;simp at h
  rw[hb.block g hlt]
  exact h
theorem laid_get{P:Program}{w:World}{n:String}{d:DataW Unit}:∀{l:List (String × DataW Unit)} {ps:List MemPlace},DataW.LaidVars P w l ps->(n,d)∈l ->
  ∃g t cs fuel p,P.globalNamed n=some g/\(P.globals[g]?).map (·.type)=some t/\w.var? P n=some cs/\DataW.trod (fun _=>()) P w 0 (fun _=>true) false fuel t cs.toList=some (d,p)
 | [],_,_,h=>by cases h
 | (m,e)::r,ps,hl,h=>by
  obtain⟨g,t,cs,fuel,p,q,h1,h2,h3,h4,h5,_⟩:=hl
  rcases List.mem_cons.1 h with h | h
  ·injection h with e1 e2
   subst e1 e2
   exact⟨g,t,cs,fuel,p,h1,h2,h3,h4⟩
  ·exact laid_get h5 h
theorem tab_of_laid{P:Program}{w:World}{l:List (String × DataW Unit)}{n:String}{k:IntKind}{zs:List Int}{g:Nat}{t e:TypeId}{m:Nat}(h:laidMet P l w)(hm:(n,Lib.tabData k zs)∈l)
  (hg:P.globalNamed n=some g) (hty:(P.globals[g]?).map (·.type)=some t) (ht:P.underlying t=some (.array m e)) (he:P.underlying e=some (.int k)) (hce:P.cellsOf e=1) (hct:P.cellsOf t=m):Lib.TabIs P w n k zs:=by
 obtain⟨ps,hl,_⟩:=h
 obtain⟨g',t',cs,fuel,p,h1,h2,h3,h4⟩:=laid_get hl hm
 obtain rfl:=Option.some.inj (hg.symm.trans h1)
 obtain rfl:=Option.some.inj (hty.symm.trans h2)
 unfold Lib.TabIs
 rw[h3,<-Lib.cells_of_tab ht he hce hct h4]
end Go.Proofs.YtobdmlejabjmiaaGreatDoor
namespace Go.Proofs.YtobdmlejabjmiaaGreatDoor
open Go.RowKit Go.Sort Go.Lib
def Pow (w : World) : Prop := Lib.TabIs Tryz.prog w "internal/strconv.uint64pow10" .u64 Lib.pow10Tab
set_option maxRecDepth 100000 in
theorem fmtUintIn(u:Nat)(hu64:u<18446744073709551616)(w:World)(htab:Pow w) :
  Calls Tryz.prog 177 #[.int .u64 (u:Int),.int .i64 10] w fun e w'=>e=.returned (.string ⟨(Lib.decDigits u).toArray⟩)/\Below w.heap.size w w':=by
 by_cases hs:u<100
 ·go_enter Tryz.func177,Tryz.ntmps177
  go_wp2_with (go_at_call 209;refine(Tryz.internal_strconv_small u hs _).mono ?_;rintro e w' ⟨rfl,rfl⟩)
  go_ret
  exact⟨rfl,Below.refl _ _⟩
 ·have hu1:1<=u:=by omega
  have hnd20:Lib.nDigits u<=20:=by have:=Lib.numDigits_eq u hu1 hu64;split at this<;>omega
  have hal:Tryz.prog.arrayLen 273=24:=by kernel_rfl
  have hsl:∀W,(Instr.sliceAt 273 (.pointer (some ⟨w.heap.size,0,none⟩)) none (some (.int .i64 (Lib.nDigits u:Int))) none).run Tryz.prog W=.ok (.slice (some ⟨w.heap.size,0,none⟩) (Lib.nDigits u) 24) W:=fun W=>by
   rw[run_sliceAt_array_h W 273 ⟨w.heap.size,0,none⟩ (by kernel_rfl) .i64 (Lib.nDigits u:Int) (by omega) (by rw[hal];omega)]
   go_simp
  have hH0:=Lib.holds_zero0 w 273 (Lib.nDigits u) (by omega)
  have hfmt:=Tryz.internal_strconv_formatBase10 w.heap.size 0 24 u (Array.replicate (Lib.nDigits u) 0) (w.alloc (.cells Lib.zeros24 273)) hH0 (by rw[Array.size_replicate];exact Lib.lt_pow_nDigits u) hu64 (by rw[Array.size_replicate];omega)
  rw[Array.size_replicate] at hfmt
  have HH0:=qh hH0
  have iu:(100:Int)<=(u:Int):=by omega
  clear hH0 hal hs
  go_enter Tryz.func177,Tryz.ntmps177
  go_wp2_with (first
   | (go_at_call 210;refine(Tryz.internal_strconv_numDigits u hu1 hu64 _ (Lib.tabIs_alloc htab _)).mono ?_;rintro e w' ⟨rfl,rfl⟩))
  go_at_call 211
  refine hfmt.mono ?_
  rintro e w' ⟨rfl,k,v',dk,rfl,hF⟩
  have hcv:(convert 34 9 (.slice (some ⟨w.heap.size,0,none⟩) (Lib.nDigits u) 24)).run Tryz.prog ((putRow (fun(b:UInt8)=>Value.int .u8 (b.toNat:Int)) (w.alloc (.cells Lib.zeros24 273)) w.heap.size 0 dk).drewN k)=.ok (.string ⟨(Lib.decDigits u).toArray⟩) ((putRow (fun(b:UInt8)=>Value.int .u8 (b.toNat:Int)) (w.alloc (.cells Lib.zeros24 273)) w.heap.size 0 dk).drewN k):=by
   have h:=run_convert_bytes_back (P:=Tryz.prog) ((putRow (fun(b:UInt8)=>Value.int .u8 (b.toNat:Int)) (w.alloc (.cells Lib.zeros24 273)) w.heap.size 0 dk).drewN k) 34 9 5 ⟨w.heap.size,0,none⟩ 24 (Lib.decDigits u) Tryz.underlying34 Tryz.underlying5 Tryz.underlying9 (fun j hj=>by
    rw[Lib.row_is_numeral hF j hj,Lib.add_plain,World.cell?_drewN]
    exact cell?_putRow (fun(b:UInt8)=>Value.int .u8 (b.toNat:Int)) _ w.heap.size 0 _ dk HH0.out (by rw[hF.size,Array.size_replicate]) j (by rw[hF.size];rw[Lib.decDigits_length] at hj;exact hj))
   rw[Lib.decDigits_length] at h
   exact h
  go_wp2
  go_ret
  obtain⟨os,eo⟩:=Lib.fin_at w (.cells Lib.zeros24 273) dk k 0
  refine⟨rfl,?_⟩
  rw[eo]
  exact Lib.below_grow _ _ (Nat.le_refl _) _ _
theorem fmtUint(n:Int)(h0:0<=n)(h1:n<=18446744073709551615)(w:World)(ht:Pow w) :
  Calls Tryz.prog 128 #[.int .u64 n,.int .i64 10] w fun e w'=>e=.returned (.string ⟨(udec n).toArray⟩)/\Below w.heap.size w w':=by
 obtain⟨u,rfl⟩:=Int.eq_ofNat_of_zero_le h0
 rw[udec_nat]
 go_enter Tryz.func128,Tryz.ntmps128
 go_wp2_with (go_at_call 177;refine(fmtUintIn u (by omega) _ ht).mono ?_)
 rintro e w' ⟨rfl,hb⟩
 go_wp2_with fail
 go_ret
 exact⟨rfl,hb⟩
end Go.Proofs.YtobdmlejabjmiaaGreatDoor
namespace Go.Proofs.YtobdmlejabjmiaaGreatDoor
open Go.RowKit
open Go.Lib (parseUintB decDigits hasPrefix trimPrefix)
structure SEnv(B:Nat)(w:World):Prop where
 pow:∀w',Below B w w'->Pow w'
 syn : ∃ tp p, ∀ w', Below B w w' → w'.var? Tryz.prog "strconv.ErrSyntax" = some #[.iface tp p]
 rng : ∃ tp p, ∀ w', Below B w w' → w'.var? Tryz.prog "strconv.ErrRange" = some #[.iface tp p]
theorem SEnv.below{B:Nat}{w w':World}(h:SEnv B w)(hb:Below B w w'):SEnv B w':=by
 obtain⟨h1,⟨a,b,h2⟩,⟨c,d,h3⟩⟩:=h
 exact⟨fun v hv=>h1 v (hb.trans hv),⟨a,b,fun v hv=>h2 v (hb.trans hv)⟩,⟨c,d,fun v hv=>h3 v (hb.trans hv)⟩⟩
theorem SEnv.up{B B':Nat}{w:World}(h:SEnv B w)(hB:B<=B'):SEnv B' w:=by
 obtain⟨h1,⟨a,b,h2⟩,⟨c,d,h3⟩⟩:=h
 exact⟨fun v hv=>h1 v (hv.mono hB),⟨a,b,fun v hv=>h2 v (hv.mono hB)⟩,⟨c,d,fun v hv=>h3 v (hv.mono hB)⟩⟩
theorem parseS(s:List UInt8)(B:Nat)(w:World)(hs:s.length<=140737488351232)(hE:SEnv B w) :
  Calls Tryz.prog 122 #[.string ⟨s.toArray⟩,.int .i64 10,.int .i64 64] w fun e w'=>Below w.heap.size w w' /\
   ((∃u,parseUintB 64 s=.ok u/\e=.returned (.tuple #[.int .u64 (u:Int),.nilIface]))\/((∀u,parseUintB 64 s≠.ok u)/\∃(n:Int) (N:Nat),e=.returned (.tuple #[.int .u64 n,.iface 268 (.pointer (some ⟨N,0,none⟩))]))):=by
 have hsz:(⟨s.toArray⟩:ByteArray).size=s.length:=by simp[ByteArray.size]
 obtain⟨_,⟨a,b,h2⟩,⟨c,d,h3⟩⟩:=hE
 cases hp:parseUintB 64 s
 ·rename_i u
  refine(Tryz.strconv_ParseUint_10_at64_ok ⟨s.toArray⟩ (by rw[hsz];omega) u hp w).mono ?_
  rintro e w' ⟨rfl,rfl | rfl⟩
  ·exact⟨Below.refl _ _,.inl ⟨u,rfl,rfl⟩⟩
  ·exact⟨Lib.bytesWorld_below _ _ _,.inl ⟨u,rfl,rfl⟩⟩
 ·have C:Calls Tryz.prog 122 #[.string ⟨s.toArray⟩,.int .i64 10,.int .i64 64] w fun e w'=>∃N,e=.returned (.tuple #[.int .u64 0,.iface 268 (.pointer (some ⟨N,0,none⟩))])/\w.heap.size<=N/\w'.heap[N]?=some (.cells #[.string ⟨#[80,97,114,115,101,85,105,110,116]⟩,.string ⟨s.toArray⟩,.iface a b] 297 (0,0))/\Below w.heap.size w w':=Any.strconv_ParseUint_10_at64_syntax_var Tryz.laysPu14 ⟨s.toArray⟩ (by rw[hsz];omega) hp a b w (h2 w (Below.refl _ _))
  refine C.mono ?_
  rintro e w' ⟨N,rfl,_,_,hb⟩
  exact⟨hb,.inr ⟨(fun u h=>by cases h),_,N,rfl⟩⟩
 ·refine(Tryz.strconv_ParseUint_10_at64_range_var ⟨s.toArray⟩ (by rw[hsz];omega) hp c d w (h3 w (Below.refl _ _))).mono ?_
  rintro e w' ⟨N,rfl,_,_,hb⟩
  exact⟨hb,.inr ⟨(fun u h=>by cases h),_,N,rfl⟩⟩
end Go.Proofs.YtobdmlejabjmiaaGreatDoor
namespace Go.Proofs.YtobdmlejabjmiaaGreatDoor
open Go.RowKit
theorem iface_of_trod{H:Type}{enc:TypeId × Value->H}{P:Program}{w:World}{base:Nat}{sp:Nat->Bool}{held:Bool}{fuel:Nat}{t:TypeId}{ms:Array (String × TypeId)}{cs:List Value}{nm:String}{d:DataW H}{p:List MemPlace}
  (hi:P.underlying t=some (.interface ms)) (h:DataW.trod enc P w base sp held fuel t cs=some (.iface nm d,p)):∃tp v,cs=[.iface tp v]:=by
 cases fuel with
 | zero=>simp[DataW.trod] at h
 | succ fuel =>
  simp only[DataW.trod,hi] at h
  split at h<;>first | exact⟨_,_,rfl⟩ | (exfalso;simp_all;done) | skip
theorem iface_of_laid{P:Program}{w:World}{l:List (String × DataW Unit)}{n:String}{nm:String}{d:DataW Unit}{g:Nat}{t:TypeId}{ms:Array (String × TypeId)}(h:laidMet P l w)(hm:(n,(.iface nm d:DataW Unit))∈l)
  (hg:P.globalNamed n=some g) (hty:(P.globals[g]?).map (·.type)=some t) (ht:P.underlying t=some (.interface ms)):∃tp v,w.var? P n=some #[.iface tp v]:=by
 obtain⟨ps,hl,_⟩:=h
 obtain⟨g',t',cs,fuel,p,h1,h2,h3,h4⟩:=laid_get hl hm
 obtain rfl:=Option.some.inj (hg.symm.trans h1)
 obtain rfl:=Option.some.inj (hty.symm.trans h2)
 obtain⟨tp,v,e⟩:=iface_of_trod ht h4
 refine⟨tp,v,?_⟩
 rw[h3]
 congr 1
 exact Array.toList_inj.1 e
theorem senv_of{l:List (String × DataW Unit)}{w:World}(h:laidMetH Tryz.prog l w)(hp:(l.all fun x=>x.2.handleName?.isNone)=true)
  (h1 : ("internal/strconv.uint64pow10", Rows.laid_internal_strconv_uint64pow10) ∈ l) (h3 : ("strconv.ErrSyntax", Rows.laid_strconv_ErrSyntax) ∈ l) (h4 : ("strconv.ErrRange", Rows.laid_strconv_ErrRange) ∈ l) : SEnv w.heap.size w := by
 rw[MakeChecks.laidMetH_plain _ _ _ hp] at h
 have t1:=tab_of_laid (g:=4) (t:=300) (e:=23) (m:=20) (zs:=Lib.pow10Tab) (k:=.u64) h h1 (by kernel_rfl) (by kernel_rfl) (by kernel_rfl) (by kernel_rfl) (by kernel_rfl) (by kernel_rfl)
 obtain⟨a,b,hs⟩:=iface_of_laid (g:=2) (t:=193) h h3 (by kernel_rfl) (by kernel_rfl) Tryz.underlying193
 obtain⟨c,d,hr⟩:=iface_of_laid (g:=3) (t:=193) h h4 (by kernel_rfl) (by kernel_rfl) Tryz.underlying193
 exact⟨fun w' hb=>var_below t1 hb,⟨a,b,fun w' hb=>var_below hs hb⟩,⟨c,d,fun w' hb=>var_below hr hb⟩⟩
theorem returns_shaped{H:Type}{enc:TypeId × Value->H}{a:Assume}{C:Checked}{os:Os}{f:FuncId}{fn:Func}{s:ChangeSpec}{conds:List PathCond}{apart fresh handsOn again:Bool}{X:World->Array Value->Prop}
  (hX:∀(w w':World) (args:Array Value),w.heap=w'.heap->X w args->X w' args)
  (own:ownKnob C.prog.godebug=none) (started:os.Started) (noInit:C.prog.inits.idxOf? f=none) (hfn:C.prog.funcs[f]?=some fn)
  (witness:∃(w:World) (tape:Tape) (i:Input),w.os=os/\(w.forCall tape i).Shaped C.prog/\i.vars=[]/\Input.okWide C.prog (w.forCall tape i) .any w.heap.size f i /\
   ((s.pre enc C.prog fn conds apart (w.forCall tape i).memory i.args/\X (w.forCall tape i).memory i.args)/\sizedMet enc C.prog fn (OpenSpec.ofChange s) apart (w.forCall tape i).memory i.args)/\a.holds C.prog (lone (Frame.enter C.prog f i.args .normal) [] (w.forCall tape i)))
  (contract:∀(W:World) (base:Nat) (args:Array Value) (ds gs:List (DataW H)) (before:List MemPlace),
   (∀(j:Nat) t v,fn.params[j]?=some t->args[j]?=some v->Value.okWide C.prog W .any base t v) ->
   DataW.Whole enc C.prog fn.params.toList s.vars apart W args.toList ds gs before ->
   conds.all (PathCond.test C.prog ⟨fn.params.toList,ds,s.plain.varTypes C.prog,gs⟩)=true ->
   (DataW.weightsEach C.prog (fn.params.toList++s.plain.varTypes C.prog) (ds++gs)).all (·<=reachBytes)=true->X W args->W.ShapedOpen C.prog ->
   Calls C.prog f args W fun e W'=>∃v,e=.returned v/\s.post enc C.prog fn apart fresh handsOn again W args v W') :
  ReturnsInHanded a C os f .any (fun w args=>(s.pre enc C.prog fn conds apart w args/\X w args)/\sizedMet enc C.prog fn (OpenSpec.ofChange s) apart w args) (s.post enc C.prog fn apart fresh handsOn again):=by
 refine returnsInHanded_of_calls own started noInit witness ?_
 intro w tape i _ hsh _ hok hpre _
 obtain⟨_,_,_,fn',hfn',_,_,_,_,hval⟩:=hok
 have e:fn'=fn:=Option.some.inj (hfn'.symm.trans hfn)
 subst e
 obtain⟨⟨⟨ds,gs,before,hw,hc⟩,hx⟩,hz⟩:=hpre
 have hw':=DataW.Whole.of_heap (w':=w.forCall tape i) (by rfl) hw
 refine(contract (w.forCall tape i) w.heap.size i.args ds gs before hval hw' hc (hz.weights hw) (hX _ _ _ (by rfl) hx) hsh).mono fun e W' ⟨v,he,hp⟩=>?_
 subst he
 exact ChangeSpec.post_blind hp
end Go.Proofs.YtobdmlejabjmiaaGreatDoor
namespace Go.Proofs.YtobdmlejabjmiaaGreatDoor
open Go.RowKit
open Go.Lib (parseUintB decDigits hasPrefix trimPrefix)
theorem cutPre(f x:List UInt8)(w:World):Calls Tryz.prog 121 #[.string ⟨f.toArray⟩,.string ⟨x.toArray⟩] w fun e w'=>e=.returned (.tuple #[.string ⟨(trimPrefix f x).toArray⟩,.bool (hasPrefix f x)])/\w'=w:=Tryz.strings_CutPrefix ⟨f.toArray⟩ ⟨x.toArray⟩ w
abbrev TS:TypeId:=108
section
variable {w:World} {p B:Nat} {cs:Array Value} {b:List UInt8}
theorem slotFile(hb:Blk w p TS cs)(h1:cs[1]?=some (.string ⟨b.toArray⟩))(hbl:b.length<=8)(n:Nat)(hn:n<18446744073709551616)(hE:SEnv B w)(hB:B<=w.heap.size) :
  Calls Tryz.prog 63 #[.pointer (some ⟨p,0,none⟩),.int .u64 (n:Int)] w fun e w'=>e=.returned (.string ⟨(fileN b n).toArray⟩)/\Below w.heap.size w w':=by
 have hcat:=concatB b [46] (by simp;omega)
 have hdl:(decDigits n).length<=20:=by rw[Go.Lib.decDigits_length];exact nDigits_le hn
 have hcat2:=concatB (b++[46]) (decDigits n) (by simp;omega)
 have hn0:(0:Int)<=(n:Int):=by omega
 have hn1:(n:Int)<=18446744073709551615:=by omega
 have HE:=qh hE
 have HBL:=qh hb
 have HC1:=qh h1
 clear hE hb hdl h1 hbl
 go_enter Tryz.func63,Tryz.ntmps63
 go_wp2_with fail
 refine wp_region_planE_gen (by kernel_rfl) [(0,none),(1,none),(2,none),(3,none),(4,none),(5,none),(6,some [5]),(7,none),(8,none)] (by kernel_rfl) (by kernel_rfl) (by decide) ?_
 intro wq hwq
 have hBq:Below w.heap.size w wq:=by rw[hwq];exact(Below.refl _ _).drew
 have c1:=(HBL.out.kept hBq).cell 1 HC1.out
 clear hwq
 iterate 3 (refine planE_pureA ?_)
 refine planE_cellsA [(⟨p,1,none⟩,.string ⟨b.toArray⟩)] ?_
 iterate 2 (refine planE_pureA ?_)
 refine planE_eff rfl (by rfl) (fun K hK=>?_)
 go_simp
 refine(fmtUint (n:Int) hn0 hn1 wq (HE.out.pow wq (hBq.mono hB))).mono ?_
 rintro e w1 ⟨rfl,hb1⟩
 rw[udec_nat]
 have hB1:=hBq.trans (hb1.mono hBq.size)
 clear hb1 c1
 have c1:=(HBL.out.kept hB1).cell 1 HC1.out
 refine planE_ownA hK ?_
 clear hK K
 iterate 2 (refine planE_pureA ?_)
 refine planE_end ?_
 have HFE:Hid (fileN b n=b++46::decDigits n):=qh (by unfold fileN;simp)
 go_wp2_with fail
 go_ret
 exact⟨by rw[HFE.out];rfl,hB1⟩
def SNumE(o:Option Nat)(w:World)(e:Ending)(w':World):Prop :=
 Below w.heap.size w w'/\∃x:Int,e=.returned (.tuple #[.int .u64 x,.bool o.isSome])/\∀n,o=some n->x=(n:Int)
theorem slotNumber(hb:Blk w p TS cs)(h1:cs[1]?=some (.string ⟨b.toArray⟩))(hbl:b.length<=8)(f:List UInt8)(hf:f.length<=1000)(hE:SEnv B w) :
  Calls Tryz.prog 58 #[.pointer (some ⟨p,0,none⟩),.string ⟨f.toArray⟩] w (SNumE (numN b f) w):=by
 have hcat:=concatB b [46] (by simp;omega)
 have c1:=hb.cell 1 h1
 have CP:=qh (cutPre f (b++[46]) w)
 have hlt:(trimPrefix f (b++[46])).length<=140737488351232:=by
  unfold trimPrefix
  split
  ·rw[List.length_drop];omega
  ·omega
 have PU:=qh (parseS (trimPrefix f (b++[46])) B w hlt hE)
 obtain⟨o,ho⟩:∃o,o=numN b f:=⟨_,rfl⟩
 rw[<-ho]
 unfold numN at ho
 clear hE hlt hb h1 hbl hf
 cases hp:hasPrefix f (b++[46]) with
 | false =>
  rw[hp] at CP
  rw[hp,if_neg (by simp)] at ho
  have HO:=qh ho
  clear ho hp
  go_enter Tryz.func58,Tryz.ntmps58
  go_wp2_with (go_at_call 121;refine CP.out.mono ?_)
  first | rintro e w1 ⟨rfl,rfl⟩ | rintro e w1 rfl rfl
  clear CP
  go_wp2_with (go_at_call 122;refine PU.out.mono ?_)
  rintro e w1 ⟨hb1,⟨u,hu,rfl⟩ | ⟨hu,x,N,rfl⟩⟩
  all_goals
   have HB1:=qh hb1
   clear hb1 hu PU
   go_wp2_with fail
   go_quiet (fail)
   go_wp2_with fail
   go_ret2
   exact⟨HB1.out.trans ((⟨rfl,rfl,rfl,Nat.le_refl _,fun _ _=>rfl⟩:Below w1.heap.size w1 (w1.drewN _)).mono HB1.out.size),_,by rw[HO.out];rfl,fun n hn=>by rw[HO.out] at hn;cases hn⟩
 | true =>
  rw[hp] at CP
  rw[hp,if_pos rfl] at ho
  have HO:=qh ho
  clear ho hp
  go_enter Tryz.func58,Tryz.ntmps58
  go_wp2_with (go_at_call 121;refine CP.out.mono ?_)
  first | rintro e w1 ⟨rfl,rfl⟩ | rintro e w1 rfl rfl
  clear CP
  go_wp2_with (go_at_call 122;refine PU.out.mono ?_)
  rintro e w1 ⟨hb1,⟨u,hu,rfl⟩ | ⟨hu,x,N,rfl⟩⟩
  ·have HO2:Hid (o=some u):=qh (by rw[HO.out,hu])
   have HB1:=qh hb1
   clear hb1 hu PU HO
   go_wp2_with fail
   go_quiet (fail)
   go_wp2_with fail
   go_ret2
   exact⟨HB1.out.trans ((⟨rfl,rfl,rfl,Nat.le_refl _,fun _ _=>rfl⟩:Below w1.heap.size w1 (w1.drewN _)).mono HB1.out.size),_,by rw[HO2.out];rfl,fun n hn=>by rw[HO2.out] at hn;injection hn with hn;rw[hn]⟩
  ·have HO2:Hid (o=none):=qh (by
    rw[HO.out]
    split
    ·rename_i u h;exact absurd h (hu u)
    ·rfl)
   have HB1:=qh hb1
   clear hb1 hu PU HO
   go_wp2_with fail
   go_quiet (fail)
   go_wp2_with fail
   go_ret2
   exact⟨HB1.out.trans ((⟨rfl,rfl,rfl,Nat.le_refl _,fun _ _=>rfl⟩:Below w1.heap.size w1 (w1.drewN _)).mono HB1.out.size),_,by rw[HO2.out];rfl,fun n hn=>by rw[HO2.out] at hn;cases hn⟩
theorem slotDid(hb:Blk w p TS cs)(d:Bool)(h1:cs[6]?=some (.bool d))(e0:Int) :
  Calls Tryz.prog 88 #[.pointer (some ⟨p,0,none⟩),.int .i64 e0] w fun e w'=>e=.returned (.int .i64 e0)/\w'=w.setCell ⟨p,6,none⟩ (.bool (d || decide (e0=11))):=by
 have c6:=hb.cell 6 h1
 have f6:=hb.free 6
 clear hb h1
 cases d
 ·by_cases he:e0=11
  ·subst he
   go_enter Tryz.func88,Tryz.ntmps88
   go_wp2_with fail
   go_ret
   exact⟨rfl,rfl⟩
  ·have heb:(e0 == 11)=false:=by simpa using he
   have hed:decide (e0=11)=false:=by simpa using he
   rw[hed]
   clear hed
   go_enter Tryz.func88,Tryz.ntmps88
   go_wp2_with fail
   go_ret
   exact⟨rfl,rfl⟩
 ·go_enter Tryz.func88,Tryz.ntmps88
  go_wp2_with fail
  go_ret
  exact⟨rfl,rfl⟩
end
end Go.Proofs.YtobdmlejabjmiaaGreatDoor
