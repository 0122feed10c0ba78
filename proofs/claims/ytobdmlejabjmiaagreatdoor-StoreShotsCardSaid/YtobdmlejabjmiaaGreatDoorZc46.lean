/- Made small by a program. -/
import Derived.Test.YtobdmlejabjmiaaGreatDoorZc45
set_option maxRecDepth 20000
set_option maxHeartbeats 8000000
namespace Go.Proofs.YtobdmlejabjmiaaGreatDoor
open Go.RowKit
def idxK(l:List En)(k:Nat):List En:=l.mapIdx fun j e=>if j<k then { e with idx:=j+1 } else e
theorem zcY(l:List En)(k:Nat):(idxK l k).length=l.length:=by unfold idxK;simp
theorem jY(l:List En)(k j:Nat):(idxK l k)[j]?=l[j]?.map fun e=>if j<k then { e with idx:=j+1 } else e:=by
 unfold idxK;rw[List.getElem?_mapIdx]
theorem zeL(l:List En):idxK l 0=l:=by
 apply List.ext_getElem?;intro j;rw[jY];cases l[j]?<;>simp
theorem zeK(l:List En)(k:Nat)(hk:k<l.length):idxK l (k+1)=(idxK l k).set k { l[k] with idx:=k+1 }:=by
 apply List.ext_getElem?;intro j;rw[jY,List.getElem?_set,zcY];by_cases hj:k=j
 ·subst hj;rw[if_pos rfl,if_pos hk,List.getElem?_eq_getElem hk];simp
 ·rw[if_neg hj,jY];cases l[j]? with
  | none=>rfl
  | some e =>
   simp only[Option.map_some,Option.some.injEq];by_cases h:j<k
   ·rw[if_pos h,if_pos (by omega)]
   ·rw[if_neg h,if_neg (by omega)]
section
variable {w w':World} {base c b:Nat} {es:List ERow}
theorem EO.setIdx(h:EO w base (some ⟨b,0,none⟩) c es){k:Nat}(hk:k<es.length)(m:Nat) :
  w.cell? ⟨b,k*5,none⟩=some (.int .u64 (es[k].1.idx:Int))/\w.frozen? ⟨b,k*5,none⟩=false/\EO (w.setCell ⟨b,k*5,none⟩ (.int .u64 (m:Int))) base (some ⟨b,0,none⟩) c (es.set k ({ es[k].1 with idx:=m },es[k].2))/\Mods (·=b) w (w.setCell ⟨b,k*5,none⟩ (.int .u64 (m:Int))):=by
 obtain⟨b',off,e,hb,hc⟩:=h.el.at_ hk;injection e with e
 injection e with e1 e2
 subst e1 e2;have hi:(es.map er)[k]?=some (er es[k]):=by rw[List.getElem?_map,List.getElem?_eq_getElem hk];rfl
 have hs:=(h.row.stored hi (j:=0) (by decide) (.int .u64 (m:Int))).1;have ms:Mods (·=b) w (w.setCell ⟨b,k*5,none⟩ (.int .u64 (m:Int))):=(Mods.refl (·=b) w).setCell ⟨b,k*5,none⟩ (.inl rfl) _;have he:(es.map er).set k ((er es[k]).set 0 (.int .u64 (m:Int)))=(es.set k ({ es[k].1 with idx:=m },es[k].2)).map er:=by rw[List.map_set];rfl
 rw[he,Nat.add_zero] at hs;refine⟨by have:=hc 0 _ rfl;simpa using this,h.row.free rfl _,⟨hs,fun y hy=>?_⟩,ms⟩;have hyo:OB w base y.2.1 y.2.2 y.1.dat:=by
  rcases List.mem_or_eq_of_mem_set hy with hy | hy
  ·exact h.ob y hy
  ·subst hy;exact h.ob es[k] (List.getElem_mem hk)
 exact hyo.mods ms (fun x hx e=>by
  subst e;obtain⟨cs,hcs⟩:=h.row.blk x rfl;exact OB.ne_blk (T:=TEn) (cs:=cs) hyo hcs (by decide) hx)
theorem zcl{es:List ERow}{k:Nat}(hk:k<es.length)(m:Nat):(es.set k ({ es[k].1 with idx:=m },es[k].2)).map Prod.fst=(es.map Prod.fst).set k { (es.map Prod.fst)[k]'(by rw[List.length_map];exact hk) with idx:=m }:=by
 rw[List.map_set];simp
end
def hN:Nm:=[104,97,114,100,46,49]
def sN:Nm:=[115,104,111,116,46,49]
def wN:Nm:=[119,46,48,46,49]
theorem zbS:fileN nmShot 1=sN:=by
 have h1:Lib.decDigits 1=[49]:=by rw[Lib.decDigits];simp
 unfold fileN nmShot;rw[h1];rfl
theorem zfx:walName 0 1=wN:=zR
theorem num_hw:numN nmHard wN=none:=by decide
theorem num_sw:numN nmShot wN=none:=by decide
theorem zda:numN nmHard sN=none:=by decide
theorem part_s:partsN sN=none:=by
 have h:parts 46 sN=[[115,104,111,116],[49]]:=by simp[parts,sN]
 unfold partsN;rw[h]
theorem part_w:partsN wN=some (0,1):=by rw[<-zfx];exact zdO
theorem ok_s:nameOk sN=true:=by decide
theorem ok_w:nameOk wN=true:=by decide
theorem openW_G{D:DSt}(hr:Rest D){x:List (List UInt8)}(hf:foundL (namesD D)=[⟨wN,0,1⟩])(hg:fget D.sure wN=some (recsB 1 x))(h:∀y∈x,y.length<=65520)(hn:1+x.length<18446744073709551616):openW D=(0,lgB x,D):=by
 have hs:=zdY x 1 h hn;have hl:=qt x 0 1;have hg':fget D.files wN=some (recsB 1 x):=by rw[hr.files];exact hg
 have hsy:syncD D=(0,D):=by
  rw[yG hr.dd hr.fu,hr.files];obtain⟨h1,h2,h3⟩:=hr;cases D
  simp only at h3;subst h3
  rfl
 unfold openW;rw[hf];show loadF [⟨wN,0,1⟩] ⟨0,[],[],1,false⟩ true D=_;have hst:stopF D ⟨wN,0,1⟩=((fget D.files wN).getD []).length:=by
  unfold stopF;simp only[hg',Option.getD_some,hs];rw[hl];omega
 unfold loadF;rw[if_neg (by simp[unfit]),if_pos hst];have ht:takeF ⟨0,[],[],1,false⟩ D ⟨wN,0,1⟩=lgB x:=by
  unfold takeF lgB;simp only[hg',Option.getD_some,hs];rw[zfx]
  rfl
 rw[ht];unfold loadF;rw[if_neg (by simp[lgB]),hsy]
theorem zbQ(r:Int):Rest (dsk0 r):=⟨rfl,rfl,rfl⟩
theorem dsk1_eq(r:Int):dsk1 r=⟨[(wN,[])],[],r,0,false⟩:=by unfold dsk1;rw[zfx]
theorem zcQ{b:Nm}{D:DSt}(h:∀f∈namesD D,numN b f=none\/∃k,k<18446744073709551616/\f=fileN b k):Canon b D:=by
 intro f hf n hn
 rcases h f hf with h1 | ⟨k,hk,h1⟩
 ·rw[h1] at hn;cases hn
 ·rw[h1,js b hk] at hn;injection hn with hn
  subst hn;exact⟨h1,hk⟩
theorem zbN{es:List En}(h:∀x∈es,x.sound):∀y∈es.map En.bytes,y.length<=4200:=by
 intro y hy;obtain⟨x,hx,rfl⟩:=List.mem_map.1 hy;exact xt (h x hx)
theorem qH:∀(L:List (List UInt8)) (n:Nat),(∀r∈L,r.length<=4200)->(recsB n L).length<=L.length*4230
 | [],_,_=>by simp[recsB]
 | r::t,n,h=>by
  have h1:=qH t (n+1) (fun x hx=>h x (List.mem_cons_of_mem _ hx));have h2:=h r (List.mem_cons_self ..);have h3:=yO n;rw[recsB,List.length_append];unfold recB;rw[jH,List.length_append,List.length_cons];omega
theorem way0(r:Int)(h0:0<=r):OpWay (dsk0 r) (dsk0 r) (dsk0 r) (dsk1 r) Sc.zero Sc.zero lg1 [] where
 o1:=yT (zbQ r) (fun p hp=>by cases hp)
 o2:=yT (zbQ r) (fun p hp=>by cases hp)
 o3:=zbH r h0
 d0:=rfl
 d1:=rfl
 c0:=by show(0:Nat)<=1000;omega
 c1:=by show(0:Nat)<=1000;omega
 c3:=by show(1:Nat)<=1000;omega
 n0:=fun p hp=>by cases hp
 n1:=fun p hp=>by cases hp
 n3:=fun p hp=>by
  have e:p=(walName 0 1,[]):=by simpa [dsk1,DSt.files] using hp
  subst e;show(walName 0 1).length<=_;rw[zR];decide
 k0:=fun f hf=>by cases hf
 k1:=fun f hf=>by cases hf
 sx:=by
  have:namesD (dsk1 r)=[wN]:=by rw[dsk1_eq];rfl
  rw[this];decide
 nl:=by show(1:Nat)<=1000;omega
 ess:=fun x hx=>by cases hx
 rcs:=rfl
 ldn:=rfl
 lf:=by decide
 el:=by decide
 era:=by decide
 sn:=fun s hs=>by
  have:s=⟨walName 0 1,1,[0]⟩:=by simpa [lg1] using hs
  subst this;show(walName 0 1).length<=1000;rw[zR];decide
 sl:=by decide
section
variable {B g:Nat} {S:Nat->Prop} {w w':World}
theorem zaK{V:Addr}{S:Nat->Prop}(h:¬S V.block):∀k,(some V).map (·.block)=some k->¬S k:=fun k hk=>by
 injection hk with hk
 subst hk;exact h
theorem zd2(f:Fd):Sorted1 [f]/\sortF [f]=[f]:=by
 refine⟨fun i a b h1 h2=>?_,rfl⟩;have:=(List.getElem?_eq_some_iff.1 h2).1;simp at this
theorem zaI{D:DSt}{f:Fd}(hf:foundL (namesD D)=[f])(hd:D.down=false)(hnl:∀n∈namesD D,n.length<=1000/\nameOk n=true)(hlen:(namesD D).length<=1000)(hbd:f.era<=1000000000000/\f.first<=1000000000000)(hcnt:D.cnt<=1000)(hfn:∀q∈D.files,q.1.length<=9223372036854775807)(hE:WEnv B w) :
  ∀(S':Nat->Prop) (wx:World),DI S' wx g D->(∀b,S' b->B<=b)->Below B w wx->B<=wx.heap.size->Calls Tryz.prog 27 #[.pointer (some ⟨g,0,none⟩)] wx (OpenE B S' wx g (openW D)):=fun S' wx h1 h2 h3 h4=>by
 obtain⟨s1,s2⟩:=zd2 f;exact walOpenG h1 hd (by rw[hf];simp) (by rw[hf];exact s1) (by rw[hf];exact s2) (by rw[hf];simp) hnl hlen (by rw[hf];intro x hx;rw[List.mem_singleton.1 hx];exact hbd) h4 h2 (hE.below h3) hcnt hfn
theorem zfi:shotB 0 0 [1,2] [] 0=true:=by decide
theorem zeW(r:Int)(h0:0<=r)(hD:DI S w g (dsk0 r))(hB:B<=w.heap.size)(hS:∀b,S b->B<=b)(hE:WEnv B w)(V:Addr)(hv:RV w (some V) (ncells .i64 [1,2]))(hVS:¬S V.block) :
  Calls Tryz.prog 8 #[.pointer (some ⟨g,0,none⟩),.agg (shotC 0 0 [1,2] [] [] (some V) 2 none 0 none 0)] w (OpenG B S w g 0 0 0 0 [1,2] [] [] true [] (openS nmHard Sc.zero) (openS nmShot Sc.zero) lg1 (dsk1 r)) :=
 jO 0 0 0 0 [1,2] [] [] 0 0 [1,2] [] [] (some V) 2 none 0 none 0 (dsk0 r) (dsk0 r) (dsk0 r) (dsk1 r) Sc.zero Sc.zero lg1 [] (way0 r h0) hD hB hS hE.se hv RV.nil RB.nil (fun _=>zaK hVS) (fun h=>by simp at h) (fun h=>by simp at h) zfi
  ⟨rfl,.inl ⟨rfl,by decide,rfl,rfl⟩⟩ ⟨rfl,.inl ⟨rfl,by decide,rfl,rfl,rfl,rfl,rfl⟩⟩ (by decide) (by decide)
  (fun S' wx h1 h2 h3 h4=>zdt h1 rfl rfl h4 h2 (hE.se.below h3) (by show(0:Nat)<=1000;omega)) true (by decide) (fun h=>by cases h)
end
theorem zcU(n:Nat):(46:UInt8) ∉ Lib.decDigits n:=fun h=>by
 have:=qe n 46 h;have e:(46:UInt8).toNat=46:=rfl;omega
theorem zdP{e n:Nat}(he:e<18446744073709551616)(hn:n<18446744073709551616):partsN (walName e n)=some (e,n):=by
 have h:walName e n=[119]++46::(Lib.decDigits e++46::Lib.decDigits n):=by unfold walName;simp
 have h1:parts 46 (walName e n)=[[119],Lib.decDigits e,Lib.decDigits n]:=by
  rw[h,xS (by decide),xS (zcU e),za2 (zcU n)]
 unfold partsN;rw[h1];simp only[if_true,jK (show e<=18446744073709551615 by omega),jK (show n<=18446744073709551615 by omega)]
structure NameR(f:Nm)(n:Nat):Prop where
 eq:f=walName 1 n
 ok:nameOk f=true
 l1:¬f<sN
 n1:f≠sN
 l2:¬f<wN
 n2:f≠wN
 s1:sN<f
 s2:wN<f
 pt:partsN f=some (1,n)
 nh:numN nmHard f=none
 ns:numN nmShot f=none
 ln:f.length<=1000
theorem nameR{n:Nat}(hn:n<18446744073709551616):NameR (walName 1 n) n:=by
 have h0:Lib.decDigits 1=[49]:=by rw[Lib.decDigits];simp
 have h:walName 1 n=119::46::49::46::Lib.decDigits n:=by unfold walName;rw[h0];rfl
 have s1:sN<walName 1 n:=by rw[h];unfold sN;exact List.Lex.rel (by decide)
 have s2:wN<walName 1 n:=by rw[h];unfold wN;exact List.Lex.cons (List.Lex.cons (List.Lex.rel (by decide)))
 refine⟨rfl,qV hn,fun e=>zY _ (za0 e s1),fun e=>zY _ (e▸s1),fun e=>zY _ (za0 e s2),fun e=>zY _ (e▸s2),s1,s2,zdP (by decide) hn,?_,?_,?_⟩
 ·unfold numN;rw[if_neg];rw[h];unfold nmHard Lib.hasPrefix;simp
 ·unfold numN;rw[if_neg];rw[h];unfold nmShot Lib.hasPrefix;simp
 ·have:=xA (e:=1) (by decide) hn;omega
def dskS(r:Int)(X b:List UInt8):DSt:=⟨[(sN,X),(wN,b)],[],r,0,false⟩
def dskR(r:Int)(X:List UInt8)(f:Nm):DSt:=⟨[(sN,X),(f,[])],[],r,0,false⟩
theorem qJ(r:Int)(X b:List UInt8):Rest (dskS r X b):=⟨rfl,rfl,rfl⟩
theorem zbR(r:Int)(X:List UInt8)(f:Nm):Rest (dskR r X f):=⟨rfl,rfl,rfl⟩
theorem yn(r:Int)(X b:List UInt8):namesD (dskS r X b)=[sN,wN]:=rfl
theorem xh(r:Int)(X:List UInt8)(f:Nm):namesD (dskR r X f)=[sN,f]:=rfl
theorem zao(r:Int)(X b:List UInt8):foundL (namesD (dskS r X b))=[⟨wN,0,1⟩]:=by
 rw[yn];simp[foundL,part_s,part_w]
theorem zan(r:Int)(X:List UInt8){f:Nm}{n:Nat}(h:NameR f n):foundL (namesD (dskR r X f))=[⟨f,1,n⟩]:=by
 rw[xh];simp[foundL,part_s,h.pt]
theorem zcb(r:Int)(b:List UInt8):dskB r b=⟨[(wN,b)],[],r,0,false⟩:=by unfold dskB;rw[zfx]
theorem sl_dskB(r:Int)(x:List (List UInt8))(h:∀y∈x,y.length<=65520)(hr:((recsB 1 x).length:Int)<=r)(hr2:r<=4194304):saveLogD lg1 (dsk1 r) x=(0,lgB x,dskB r (recsB 1 x)):=by
 obtain⟨D1,h1,_,h2⟩:=zei r x h hr hr2;have e:appendW lg1 (dsk1 r) x=(0,lgB x,D1):=h1;unfold saveLogD;rw[e,if_neg (by simp)];exact h2
theorem zcH(X:List UInt8)(hX:X.length<=65520)(r:Int)(b:List UInt8)(hr:(b.length:Int)+X.length+8<=r):saveS (openS nmShot Sc.zero) (dskB r b) X=(0,⟨nmShot,1,X,true,[sN],false⟩,dskS r (frameB X) b):=by
 have h:=zaB j9 (s:=openS nmShot Sc.zero) rfl rfl rfl rfl (D:=dskB r b) ⟨rfl,rfl,rfl⟩ (x:=X) hX (by rw[zbS,zcb];show fget [(wN,b)] sN=none;unfold fget;rfl) (by show 1<4096;decide) (by
  rw[zcb];have:fsize [(wN,b)]=b.length:=by show b.length+0=_;omega
  simp only[this];omega)
 rw[h,zbS,zcb];have:fset [(wN,b)] sN (frameB X)=[(sN,frameB X),(wN,b)]:=by
  simp only[fset];rw[if_neg (by decide),if_neg (by decide)]
 simp only[this]
 rfl
theorem sh_keep(X:List UInt8)(hX:X.length<=65520)(r:Int)(x:List (List UInt8))(i:Nat)(hi:i<=x.length)(hr:((recsB 1 x).length:Int)+X.length+8<=r) :
  saveShotD (openS nmShot Sc.zero) (lgB x) (dskB r (recsB 1 x)) true i X=(0,dskS r (frameB X) (recsB 1 x)):=by
 have hsy:syncW (lgB x) (dskS r (frameB X) (recsB 1 x))=(0,lgB x,dskS r (frameB X) (recsB 1 x)):=by
  unfold syncW;rw[if_neg (by simp[lgB]),yG rfl rfl];rfl
 have hd:dropW (lgB x) (dskS r (frameB X) (recsB 1 x)) (i+1)=(0,lgB x,dskS r (frameB X) (recsB 1 x)):=by
  unfold dropW;rw[if_neg (by simp[lgB]),if_neg (by show ¬1+x.length<i+1;omega),hsy,if_neg (by simp)]
  rfl
 unfold saveShotD;rw[zcH X hX r _ hr,if_neg (by simp),if_pos rfl,hd]
theorem sh_new(X:List UInt8)(hX:X.length<=65520)(r:Int)(x:List (List UInt8))(i:Nat)(hi:i+1<18446744073709551616)(hr:((recsB 1 x).length:Int)+X.length+8<=r) :
  saveShotD (openS nmShot Sc.zero) (lgB x) (dskB r (recsB 1 x)) false i X=(0,dskR r (frameB X) (walName 1 (i+1))):=by
 obtain⟨f,hf⟩:∃f,f=walName 1 (i+1):=⟨_,rfl⟩;have N:=nameR hi;rw[<-hf] at N;obtain⟨F,hF⟩:∃F,F=frameB X:=⟨_,rfl⟩;obtain⟨b,hb⟩:∃b,b=recsB 1 x:=⟨_,rfl⟩;have hs:=zcH X hX r (recsB 1 x) hr;rw[<-hb,<-hF] at hs;have hg:fget [(sN,F),(wN,b)] f=none:=by
  simp[fget,N.n1.symm,N.n2.symm]
 have hp:putW (dskS r F b) f 0 []=(0,⟨[(sN,F),(wN,b)],[⟨1,f,0,[]⟩],r,0,false⟩):=by
  unfold putW changeD;have hre:refuseD (dskS r F b) ⟨1,f,0,[]⟩ ((0:Nat):Int)=0:=by
   have hg':fget (dskS r F b).files f=none:=hg;unfold refuseD;rw[if_neg (by simp[dskS]),if_neg (by simp[N.ok]),if_neg (by simp[dskS,DSt.files]),if_neg (by simp[hg',afterN])]
  rw[if_neg (by rw[hre];simp)];simp[burnD,dskS]
 have hfs:fset [(sN,F),(wN,b)] f []=[(sN,F),(wN,b),(f,[])]:=by
  simp only[fset];rw[if_pos N.s1,if_pos N.s2]
 have hsy:syncW (lgB x) ⟨[(sN,F),(wN,b)],[⟨1,f,0,[]⟩],r,0,false⟩=(0,(lgB x).fell 0,⟨[(sN,F),(wN,b),(f,[])],[],r,0,false⟩):=by
  unfold syncW;rw[if_neg (by simp[lgB]),yG rfl rfl];have:DSt.files ⟨[(sN,F),(wN,b)],[⟨1,f,0,[]⟩],r,0,false⟩=[(sN,F),(wN,b),(f,[])]:=by
   simp only[DSt.files,List.foldl_cons,List.foldl_nil,doF,if_true,hg,Option.getD_none,za5,hfs]
  simp only[this]
 have hrm:rmD ⟨[(sN,F),(wN,b),(f,[])],[],r,0,false⟩ wN=(0,⟨[(sN,F),(wN,b),(f,[])],[⟨3,wN,0,[]⟩],r,0,false⟩):=by
  rw[ze9 rfl rfl ok_w]
  rfl
 have hrs:resetW (lgB x) (dskS r F b) (i+1)=(0,(resetW (lgB x) (dskS r F b) (i+1)).2.1,dskR r F f):=by
  unfold resetW;rw[if_neg (by simp[lgB]),if_neg (by omega),show(lgB x).era+1=1 from rfl,<-hf,hp];simp only;rw[if_neg (by simp),hsy];simp only;rw[if_neg (by simp)];have hsegs:(lgB x).segs.map Sg.name=[wN]:=by rw[<-zfx];rfl
  rw[hsegs];unfold removeW;rw[hrm,if_neg (by simp)];unfold removeW syncW;rw[if_neg (by simp[Lg.fell,lgB]),yG rfl rfl];have:DSt.files ⟨[(sN,F),(wN,b),(f,[])],[⟨3,wN,0,[]⟩],r,0,false⟩=[(sN,F),(f,[])]:=by
   simp only[DSt.files,List.foldl_cons,List.foldl_nil,doF,fdel];simp[N.n2,show sN≠wN by decide]
  simp only[this]
  rfl
 unfold saveShotD;rw[<-hb,hs,if_neg (by simp),if_neg (by simp)];simp only;rw[hrs,hF,hf]
def lgR(f:Nm)(n:Nat):Lg:=⟨1,[⟨f,n,[0]⟩],[],n,false⟩
theorem openW_R(r:Int)(X:List UInt8){f:Nm}{n:Nat}(h:NameR f n):openW (dskR r X f)=(0,lgR f n,dskR r X f):=by
 have hsy:syncD (dskR r X f)=(0,dskR r X f):=by rw[yG rfl rfl];rfl
 have hg:fget (dskR r X f).files f=some []:=by
  show fget [(sN,X),(f,[])] f=some [];simp[fget,h.n1.symm]
 unfold openW;rw[zan r X h];show loadF [⟨f,1,n⟩] ⟨1,[],[],1,false⟩ true (dskR r X f)=_;have hsc:scanF [] n=([],[]):=rfl;have hst:stopF (dskR r X f) ⟨f,1,n⟩=((fget (dskR r X f).files f).getD []).length:=by
  unfold stopF;simp only[hg,Option.getD_some,hsc]
  rfl
 unfold loadF;rw[if_neg (by simp[unfit]),if_pos hst];have ht:takeF ⟨1,[],[],1,false⟩ (dskR r X f) ⟨f,1,n⟩=lgR f n:=by
  unfold takeF lgR;simp only[hg,Option.getD_some,hsc]
  rfl
 rw[ht];unfold loadF;rw[if_neg (by simp[lgR]),hsy]
theorem wayS(r:Int)(x:List UInt8)(hx:x.length<=65520)(es:List En)(hes:∀e∈es,e.sound)(hel:es.length<=1000) :
  OpWay (dskS r (frameB x) (recsB 1 (es.map En.bytes))) (dskS r (frameB x) (recsB 1 (es.map En.bytes))) (dskS r (frameB x) (recsB 1 (es.map En.bytes))) (dskS r (frameB x) (recsB 1 (es.map En.bytes))) Sc.zero ⟨1,1,true,x,[sN]⟩ (lgB (es.map En.bytes)) es where
 o1:=yT (qJ _ _ _) (fun p hp=>by
  have:p=(sN,frameB x)\/p=(wN,recsB 1 (es.map En.bytes)):=by simpa [dskS] using hp
  rcases this with e | e<;>rw[e]
  ·exact zda
  ·exact num_hw)
 o2:=by
  have h:=zav (b:=nmShot) (qJ r (frameB x) (recsB 1 (es.map En.bytes))) (n:=1) hx (by decide) (F1:=[]) (F2:=[(wN,recsB 1 (es.map En.bytes))]) (by rw[zbS];rfl) (by simp) (fun p hp=>by rw[List.mem_singleton.1 hp];exact num_sw);rw[zbS] at h;exact h
 o3:=openW_G (qJ _ _ _) (zao _ _ _) rfl (fun y hy=>by have:=zbN hes y hy;omega) (by rw[List.length_map];omega)
 d0:=rfl
 d1:=rfl
 c0:=by show(2:Nat)<=1000;omega
 c1:=by show(2:Nat)<=1000;omega
 c3:=by show(2:Nat)<=1000;omega
 n0:=fun p hp=>by
  have:p=(sN,frameB x)\/p=(wN,recsB 1 (es.map En.bytes)):=by simpa [dskS,DSt.files] using hp
  rcases this with e | e<;>rw[e]
  ·exact ok_s
  ·exact ok_w
 n1:=fun p hp=>by
  have:p=(sN,frameB x)\/p=(wN,recsB 1 (es.map En.bytes)):=by simpa [dskS,DSt.files] using hp
  rcases this with e | e<;>rw[e]
  ·exact ok_s
  ·exact ok_w
 n3:=fun p hp=>by
  have:p=(sN,frameB x)\/p=(wN,recsB 1 (es.map En.bytes)):=by simpa [dskS,DSt.files] using hp
  rcases this with e | e<;>rw[e]
  ·show(6:Nat)<=_;decide
  ·show(5:Nat)<=_;decide
 k0:=zcQ (fun f hf=>by
  have:f=sN\/f=wN:=by simpa [yn] using hf
  rcases this with e | e<;>rw[e]
  ·exact .inl zda
  ·exact .inl num_hw)
 k1:=zcQ (fun f hf=>by
  have:f=sN\/f=wN:=by simpa [yn] using hf
  rcases this with e | e<;>rw[e]
  ·exact .inr ⟨1,by decide,zbS.symm⟩
  ·exact .inl num_sw)
 sx:=by rw[yn];decide
 nl:=by rw[yn];decide
 ess:=hes
 rcs:=rfl
 ldn:=rfl
 lf:=by show(1:Nat)<=_;decide
 el:=hel
 era:=by show(0:Nat)<=_;decide
 sn:=fun s hs=>by
  have:s=⟨walName 0 1,1,0::marksB 0 1 (es.map En.bytes)⟩:=by simpa [lgB] using hs
  subst this;show(walName 0 1).length<=1000;rw[zR];decide
 sl:=by show(1:Nat)<=_;decide
theorem wayR(r:Int)(x:List UInt8)(hx:x.length<=65520){f:Nm}{n:Nat}(h:NameR f n)(hn:n<=1000000000000) :
  OpWay (dskR r (frameB x) f) (dskR r (frameB x) f) (dskR r (frameB x) f) (dskR r (frameB x) f) Sc.zero ⟨1,1,true,x,[sN]⟩ (lgR f n) [] where
 o1:=yT (zbR _ _ _) (fun p hp=>by
  have:p=(sN,frameB x)\/p=(f,[]):=by simpa [dskR] using hp
  rcases this with e | e<;>rw[e]
  ·exact zda
  ·exact h.nh)
 o2:=by
  have k:=zav (b:=nmShot) (zbR r (frameB x) f) (n:=1) hx (by decide) (F1:=[]) (F2:=[(f,[])]) (by rw[zbS];rfl) (by simp) (fun p hp=>by rw[List.mem_singleton.1 hp];exact h.ns);rw[zbS] at k;exact k
 o3:=openW_R _ _ h
 d0:=rfl
 d1:=rfl
 c0:=by show(2:Nat)<=1000;omega
 c1:=by show(2:Nat)<=1000;omega
 c3:=by show(2:Nat)<=1000;omega
 n0:=fun p hp=>by
  have:p=(sN,frameB x)\/p=(f,[]):=by simpa [dskR,DSt.files] using hp
  rcases this with e | e<;>rw[e]
  ·exact ok_s
  ·exact h.ok
 n1:=fun p hp=>by
  have:p=(sN,frameB x)\/p=(f,[]):=by simpa [dskR,DSt.files] using hp
  rcases this with e | e<;>rw[e]
  ·exact ok_s
  ·exact h.ok
 n3:=fun p hp=>by
  have:p=(sN,frameB x)\/p=(f,[]):=by simpa [dskR,DSt.files] using hp
  rcases this with e | e<;>rw[e]
  ·show(6:Nat)<=_;decide
  ·have:=h.ln;show f.length<=_;omega
 k0:=zcQ (fun y hy=>by
  have:y=sN\/y=f:=by simpa [xh] using hy
  rcases this with e | e<;>rw[e]
  ·exact .inl zda
  ·exact .inl h.nh)
 k1:=zcQ (fun y hy=>by
  have:y=sN\/y=f:=by simpa [xh] using hy
  rcases this with e | e<;>rw[e]
  ·exact .inr ⟨1,by decide,zbS.symm⟩
  ·exact .inl h.ns)
 sx:=by
  rw[xh,List.contains_cons,List.contains_cons,List.contains_nil];have h1:([116,46,120] == sN)=false:=by decide
  have h2:([116,46,120] == f)=false:=by
   rw[beq_eq_false_iff_ne];intro e;have h3:=h.s1;rw[<-e] at h3;have h4:=h.s2;rw[<-e] at h4;exact absurd h4 (by decide)
  rw[h1,h2];rfl
 nl:=by show(2:Nat)<=1000;omega
 ess:=fun x hx=>by cases hx
 rcs:=rfl
 ldn:=rfl
 lf:=hn
 el:=by decide
 era:=by show(1:Nat)<=_;decide
 sn:=fun s hs=>by
  have:s=⟨f,n,[0]⟩:=by simpa [lgR] using hs
  subst this;exact h.ln
 sl:=by show(1:Nat)<=_;decide
theorem zeD{es:List En}{i t:Nat}(hi:1<=i)(h:keepB es i t=true):fitsB (lgB (es.map En.bytes)) es i t=true:=by
 have h1:(lgB (es.map En.bytes)).first=1:=rfl
 unfold fitsB;rw[h1];unfold keepB at h;split at h
 ·rename_i y hy;simp only[decide_eq_true_eq] at h;simp[hy,h,hi]
 ·cases h
theorem fits_new(f:Nm)(i t:Nat):fitsB (lgR f (i+1)) [] i t=true:=by
 have h1:(lgR f (i+1)).first=i+1:=rfl
 unfold fitsB;rw[h1];simp
theorem keep_le{es:List En}{i t:Nat}(hi:1<=i)(h:keepB es i t=true):i<=es.length:=by
 unfold keepB at h;split at h
 ·rename_i y hy;have:=(List.getElem?_eq_some_iff.1 hy).1;omega
 ·cases h
def dskT(r:Int)(X:List UInt8)(es:List En)(i t:Nat):DSt:=if keepB es i t=true then dskS r (frameB X) (recsB 1 (es.map En.bytes)) else dskR r (frameB X) (walName 1 (i+1))
def lgT(es:List En)(i t:Nat):Lg:=if keepB es i t=true then lgB (es.map En.bytes) else lgR (walName 1 (i+1)) (i+1)
def esT(es:List En)(i t:Nat):List En:=if keepB es i t=true then es.drop i else []
theorem zeB(r:Int)(X:List UInt8)(es:List En)(i t:Nat)(mask:Nat)(torn:Int):fallD (dskT r X es i t) mask torn=dskT r X es i t:=by
 unfold dskT;split<;>rfl
theorem sh_T(X:List UInt8)(hX:X.length<=65520)(r:Int)(es:List En)(i t:Nat)(hi:1<=i)(hi2:i<=1000000)(hr:((recsB 1 (es.map En.bytes)).length:Int)+X.length+8<=r) :
  saveShotD (openS nmShot Sc.zero) (lgB (es.map En.bytes)) (dskB r (recsB 1 (es.map En.bytes))) (keepB es i t) i X=(0,dskT r X es i t):=by
 unfold dskT;by_cases h:keepB es i t=true
 ·rw[if_pos h,h];exact sh_keep X hX r _ i (by rw[List.length_map];exact keep_le hi h) hr
 ·rw[if_neg h,show keepB es i t=false by simpa using h];exact sh_new X hX r _ i (by omega) hr
section
variable {B g:Nat} {S:Nat->Prop} {w w':World}
theorem openK(r:Int)(i t:Nat)(v l:List Int)(d:List UInt8)(hi:1<=i)(hi2:i<=1000000)(hsh:shotB i t v l d.length=true)(es:List En)(hes:∀e∈es,e.sound)(hel:es.length<=1000)(hD:DI S w g (dskT r (shotBytes i t v l d) es i t))(hB:B<=w.heap.size)(hS:∀b,S b->B<=b)(hE:WEnv B w)(V:Addr)(hv:RV w (some V) (ncells .i64 [1,2]))(hVS:¬S V.block) :
  Calls Tryz.prog 8 #[.pointer (some ⟨g,0,none⟩),.agg (shotC 0 0 [1,2] [] [] (some V) 2 none 0 none 0)] w (OpenG B S w g 0 0 i t v l d true (esT es i t) (openS nmHard Sc.zero) (openS nmShot ⟨1,1,true,shotBytes i t v l d,[sN]⟩) (lgT es i t) (dskT r (shotBytes i t v l d) es i t)):=by
 obtain⟨q1,q2,_,q4,q5⟩:=zI hsh;obtain⟨q6,q7,_⟩:=zP q1;have n1:=zD q6;have n2:=zD q7;have hlen:=yL hsh;have hSO:ShotOf (openS nmShot ⟨1,1,true,shotBytes i t v l d,[sN]⟩) i t v l d 0 0 [1,2] [] []:=⟨rfl,.inr ⟨rfl,rfl,hsh⟩⟩;by_cases h:keepB es i t=true
 ·have e1:dskT r (shotBytes i t v l d) es i t=dskS r (frameB (shotBytes i t v l d)) (recsB 1 (es.map En.bytes)):=if_pos h;have e2:lgT es i t=lgB (es.map En.bytes):=if_pos h;have e3:esT es i t=es.drop i:=if_pos h;rw[e1,e2,e3];rw[e1] at hD;have W:=wayS r (shotBytes i t v l d) (by omega) es hes hel;exact jO 0 0 i t v l d 0 0 [1,2] [] [] (some V) 2 none 0 none 0 _ _ _ _ _ _ _ es W hD hB hS hE.se hv RV.nil RB.nil (fun _=>zaK hVS) (fun h=>by simp at h) (fun h=>by simp at h) zfi
   ⟨rfl,.inl ⟨rfl,by decide,rfl,rfl⟩⟩ hSO (by omega) ⟨by omega,by omega,by omega⟩
   (zaI (zao _ _ _) rfl (fun n hn=>by
    have:n=sN\/n=wN:=by simpa [yn] using hn
    rcases this with e | e<;>rw[e]
    ·exact⟨by decide,ok_s⟩
    ·exact⟨by decide,ok_w⟩) (by rw[yn];decide) ⟨by decide,by decide⟩ (by show(2:Nat)<=1000;omega) W.n3 hE) true (zeD hi h) (fun h=>by cases h)
 ·have e1:dskT r (shotBytes i t v l d) es i t=dskR r (frameB (shotBytes i t v l d)) (walName 1 (i+1)):=if_neg h;have e2:lgT es i t=lgR (walName 1 (i+1)) (i+1):=if_neg h;have e3:esT es i t=[]:=if_neg h;rw[e1,e2,e3];rw[e1] at hD;have N:=nameR (n:=i+1) (by omega);have W:=wayR r (shotBytes i t v l d) (by omega) N (by omega);have K:=jO 0 0 i t v l d 0 0 [1,2] [] [] (some V) 2 none 0 none 0 _ _ _ _ _ _ _ [] W hD hB hS hE.se hv RV.nil RB.nil (fun _=>zaK hVS) (fun h=>by simp at h) (fun h=>by simp at h) zfi
   ⟨rfl,.inl ⟨rfl,by decide,rfl,rfl⟩⟩ hSO (by omega) ⟨by omega,by omega,by omega⟩
   (zaI (zan _ _ N) rfl (fun n hn=>by
    have:n=sN\/n=walName 1 (i+1):=by simpa [xh] using hn
    rcases this with e | e<;>rw[e]
    ·exact⟨by decide,ok_s⟩
    ·exact⟨N.ln,N.ok⟩) (by show(2:Nat)<=1000;omega) ⟨by show(1:Nat)<=_;decide,by show i+1<=_;omega⟩ (by show(2:Nat)<=1000;omega) W.n3 hE) true (fits_new _ _ _) (fun h=>by cases h)
  rw[List.drop_nil] at K;exact K
end
theorem zdB(a b c d e:Value)(w:World):(Instr.field 36 (.agg #[a,b,c,d,e]) 2).run Tryz.prog w=.ok (.agg #[c,d]) w:=by kernel_rfl
theorem zd4{w:World}{n:Nat}{T:TypeId}{ht i t en:Nat}{hv:Int}{v l:List Int}{d:List UInt8}{V L D E:Option Addr}{vc lc dc ec:Nat}(h:Blk w n T (stateL ht hv i t v l d V vc L lc D dc E en ec)):w.rangeAt n 2 [.int .u64 (i:Int),.int .u64 (t:Int),.slice V v.length vc,.slice L l.length lc,.slice D d.length dc] :=
 h.range 2 _ (by
  intro j x hj
  match j,hj with
  | 0,hj=>simpa using hj
  | 1,hj=>simpa using hj
  | 2,hj=>simpa using hj
  | 3,hj=>simpa using hj
  | 4,hj=>simpa using hj
  | j+5,hj=>simp at hj)
theorem shotB_mk{i t n:Nat}(h:1<=i/\i<=60/\1<=t/\t<=5)(hn:n<=1000):shotB i t [1,2] [] n=true:=by
 have hcf:confB [1,2] []=true:=by decide
 simp only[shotB,hcf,Bool.true_and,Bool.and_eq_true,decide_eq_true_eq,beq_iff_eq];refine⟨⟨⟨by omega,?_⟩,by omega⟩,by omega⟩;rw[decide_eq_false (by omega),decide_eq_false (by omega)]
theorem jo:∀(x:List (List UInt8)) (i n:Nat),(marksB i n x).length=x.length
 | [],_,_=>rfl
 | _::t,_,_=>congrArg (·+1) (jo t _ _)
theorem zeN{x:List (List UInt8)}(h:x.length<=1000):(lgB x).fineD/\(lgB x).chain:=by
 have hm:=jo x 0 1;refine⟨⟨fun s hs=>?_,?_,?_,?_⟩,?_⟩
 ·have e:s=⟨walName 0 1,1,0::marksB 0 1 x⟩:=by simpa [lgB] using hs
  subst e;refine⟨?_,?_⟩
  ·show(walName 0 1).length<=1000;rw[zR];decide
  ·show(0::marksB 0 1 x).length<=1000000;rw[List.length_cons,hm];omega
 ·show 1+x.length<=_;omega
 ·show(1:Nat)<=_;omega
 ·show x.length<=_;omega
 ·show SegsCh [⟨walName 0 1,1,0::marksB 0 1 x⟩] 1 (1+x.length);simp[SegsCh,hm]
section
variable {w w':World}
theorem zdD(a b:Value)(w:World):(Instr.field 25 (.agg #[a,b]) 0).run Tryz.prog w=.ok a w:=by kernel_rfl
theorem zck(w:World)(hE:SEnv w.heap.size w):Calls Tryz.prog 11 #[] w fun e w'=>e=.returned (.bool true)/\Below w.heap.size w w':=by
 have HE:=qh hE;have ND:=qh (zes 9000 w (by decide) (by decide));clear hE;go_enter Tryz.func11,Tryz.ntmps11;go_wp2_with (go_at_call 7;refine ND.out.mono ?_);first | rintro e w1 ⟨g,rfl,hd,b1⟩ | rintro e w1 g rfl hd b1
 have HB1:=qh b1;have HD:=qh hd;clear b1 hd ND;go_wp2_with fail;refine jZ.mono ?_;rintro e w2 ⟨V,rfl,ho,b2⟩;have hb2:=zn HB1.out b2;have hsz1:=HB1.out.size;have OP:=qh (zbV (B:=w.heap.size) (g:=g) 0 0 [1,2] [] [] (some V) 2 none 0 none 0 (HD.out.below b2) hb2.size (fun b e=>e.1) (HE.out.below hb2) ho.rv RV.nil RB.nil
  (fun _ k hk e=>by have h1:=(ho.blk_lt k hk).1;have h2:=e.2;omega) (fun h0=>by cases h0) (fun h0=>by cases h0) (by decide))
 have HB2:=qh hb2;have HNS:Hid (∀b,News w w1 b->w.heap.size<=b/\b<w1.heap.size):=qh (fun b e=>e);clear ho b2 hb2 HD;go_wp2_with fail;refine OP.out.mono ?_;rintro e w3 ⟨q,ph,ps,pl,nb,A,ac,Bb,bc,C,cc,A',ac',B',bc',C',cc',rfl,hq,o1,o2,o3,hqw,hqn,m3,hy⟩;obtain⟨S3,V3,cv3,O3,co3,r3,k3,hqS,hSn,hpn,hqp⟩:=hy rfl;have hb3:Below w.heap.size w w3:=Mods.old HB2.out m3 HB2.out.size (fun i _ e=>(HNS.out i e).1);have hb4:Below w3.heap.size w3 (w3.alloc (.cells state0 38)):=(Below.refl _ _).alloc (Nat.le_refl _) _;have T4:=qh (Blk.new w3 state0 38);have hB4:=below_setRow (g:=w3.heap.size) (hb3.trans (hb4.mono hb3.size)) hb3.size (stateC 0 0 0 0 [1,2] [] [] A' ac' B' bc' C' cc');have hB43:=below_setRow (g:=w3.heap.size) hb4 (Nat.le_refl _) (stateC 0 0 0 0 [1,2] [] [] A' ac' B' bc' C' cc');obtain⟨w4,hw4⟩:∃w4,w4=(w3.alloc (.cells state0 38)).setRow w3.heap.size (stateC 0 0 0 0 [1,2] [] [] A' ac' B' bc' C' cc'):=⟨_,rfl⟩;rw[<-hw4] at hB4 hB43;have HW4:=qh hw4.symm;have o1':=o1.below hB43;have r4:=r3.below hB43;have SH:=qh (zbf (nb:=nb) 5 2 [1,2] A ac Bb bc C cc (hq.kept hB43) r4 hB4.size (HE.out.below hB4) hqS hqp o1' hSn hpn hqn (by decide) (by decide));have hsg:∀b,S3 b->w.heap.size<=b:=r3.sge;have hpg:=r3.ge;have G4:=qh (And.intro hB4 (And.intro hsg hpg));have HR:=qh (And.intro (o2.below hB43) (And.intro (o3.below hB43) (And.intro r4.di.bnd hSn)));have hqw':w.heap.size<=q:=by have:=HB2.out.size;omega
 clear OP hq o1 o2 o3 m3 hy r3 k3 hb3 hb4 hB4 hB43 hw4 o1' r4 hsg HB1 HNS;go_wp2_with (first
  | (refine wpList_store_row rfl 38 (.tmp 4) (.tmp 16) rfl w3.heap.size (stateC 0 0 0 0 [1,2] [] [] A' ac' B' bc' C' cc') rfl rfl _ _ T4.out zA rfl (by simp[Value.oneCell']) ?_;rw[HW4.out])
  | (go_at_call 14;refine SH.out.mono ?_))
 rintro e w5 ⟨rfl,hq5,o5,m5⟩;have HB5:=qh (Mods.old G4.out.1 m5 G4.out.1.size (fun i _ e=>e.elim (G4.out.2.1 i) (fun e=>e.elim (fun e=>by rw[e];exact G4.out.2.2) (fun e=>by rw[e];exact hqw'))));have ST:=qh (zd7 5 2 0 0 [1,2] [] [] A ac Bb bc C cc hq5 o5.rv RV.nil RB.nil (by decide) (by decide) (by decide));clear SH hq5 o5 m5 G4 HR;go_wp2_with (go_at_call 16;refine ST.out.mono ?_);rintro e w6 ⟨A6,ac6,B6,bc6,C6,cc6,rfl,_,_,_,b6⟩;have HB6:=qh (HB5.out.trans (b6.mono HB5.out.size));have f1:=zdC (.int .u64 5) (.int .i64 2) (.int .u64 0) (.int .u64 0) (.slice A6 2 ac6) (.slice B6 0 bc6) (.slice C6 0 cc6) (.slice none 0 0) w6;have f2:=zdD (.int .u64 5) (.int .i64 2) w6;clear b6 ST HB5;unfold stateC;go_wp2_with fail;go_ret;exact⟨rfl,HB6.out⟩
end
end Go.Proofs.YtobdmlejabjmiaaGreatDoor
