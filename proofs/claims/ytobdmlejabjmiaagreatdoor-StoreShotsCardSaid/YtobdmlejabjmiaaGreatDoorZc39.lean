/- Made small by a program. -/
import Derived.Test.YtobdmlejabjmiaaGreatDoorZc38
import Derived.Test.YtobdmlejabjmiaaGreatDoorZc24
set_option maxRecDepth 20000
set_option maxHeartbeats 8000000
namespace Go.Proofs.YtobdmlejabjmiaaGreatDoor
open Go.RowKit
theorem cmpU(a b:Nat)(_ha:a<18446744073709551616)(_hb:b<18446744073709551616)(hab:b<=a)(w:World) :
  Calls Tryz.prog 68 #[.int .u64 (a:Int),.int .u64 (b:Int)] w fun e w'=>∃k:Int,e=.returned (.int .i64 k)/\0<=k/\w'=w:=by
 have NA:∀(x:Int) (w:World),Calls Tryz.prog 132 #[.int .u64 x] w fun e w'=>e=.returned (.bool false)/\w'=w:=fun x w=>by
  go_enter Tryz.func132,Tryz.ntmps132;go_wp2_with fail;go_ret;exact⟨by simp,rfl⟩
 have NH:=qh NA;have h1:¬(a:Int)<(b:Int):=by omega
 clear NA;go_enter Tryz.func68,Tryz.ntmps68;by_cases h2:(b:Int)<(a:Int)
 ·go_wp2_with (go_at_call 132;refine(NH.out _ _).mono ?_;first | rintro e w1 ⟨rfl,rfl⟩ | rintro e w1 rfl rfl);go_ret;exact⟨1,rfl,by decide,rfl⟩
 ·go_wp2_with (go_at_call 132;refine(NH.out _ _).mono ?_;first | rintro e w1 ⟨rfl,rfl⟩ | rintro e w1 rfl rfl);go_ret;exact⟨0,rfl,by decide,rfl⟩
theorem cmpFound(f g:Fd)(hf:f.first<18446744073709551616)(hg:g.first<18446744073709551616)(hab:g.first<=f.first)(w:World) :
  Calls Tryz.prog 67 #[.agg (fdRow f).toArray,.agg (fdRow g).toArray] w fun e w'=>∃k:Int,e=.returned (.int .i64 k)/\0<=k/\Below w.heap.size w w':=by
 have hal:Below w.heap.size w ((w.alloc (.cells (fdRow f).toArray TF)).alloc (.cells (fdRow g).toArray TF)):=((Below.refl _ _).alloc (Nat.le_refl _) _).alloc (by simp) _;have z1:=(Blk.new w (fdRow f).toArray TF).below ((Below.refl (w.heap.size+1) _).alloc (by simp) (.cells (fdRow g).toArray TF)) (Nat.lt_succ_self _);have z2:=Blk.new (w.alloc (.cells (fdRow f).toArray TF)) (fdRow g).toArray TF;have hws:(w.alloc (.cells (fdRow f).toArray TF)).heap.size=w.heap.size+1:=by simp
 rw[hws] at z2;have c1:=z1.cell 2 (v:=.int .u64 (f.first:Int)) rfl;have c2:=z2.cell 2 (v:=.int .u64 (g.first:Int)) rfl;have CM:=qh (cmpU f.first g.first hf hg hab);have HAL:=qh hal;clear hal z1 z2 hws;unfold fdRow at *;go_enter Tryz.func67,Tryz.ntmps67;go_wp2_with (go_at_call 68;refine(CM.out _).mono ?_);rintro e w1 ⟨k,rfl,hk,rfl⟩;go_wp2_with fail;go_ret;exact⟨k,rfl,hk,HAL.out⟩
def Sorted1(fs:List Fd):Prop:=∀i f g,fs[i]?=some f->fs[i+1]?=some g->f.first<=g.first
section
variable {w w':World}
abbrev cmpV:Value:=.func (.func 67) #[] #[]
theorem zeM(X:Option Addr)(c:Nat)(fs:List Fd)(w:World)(h:RS w X 3 (fs.map fdRow))(hs:Sorted1 fs)(hb:∀f∈fs,f.first<18446744073709551616)(hn:fs.length<=12) :
  Calls Tryz.prog 179 #[.slice X fs.length c,.int .i64 0,.int .i64 (fs.length:Int),cmpV] w fun e w'=>e=.returned (.tuple #[])/\Below w.heap.size w w':=by
 have HR:=qh h;have HS:=qh hs;have HBD:=qh hb;clear h hs hb;go_enter Tryz.func179,Tryz.ntmps179;go_wp2_with fail;go_loopw [8,9] (fun s8 _ wr=>∃k:Nat,1<=k/\k<=12/\s8=.int .i64 (k:Int)/\Hid (Below w.heap.size w wr)) (fun s8 _ _=>12 - (intOf s8).toNat)
 case atStart=>exact⟨1,by decide,by decide,rfl,qh (Below.refl _ _)⟩
 case round =>
  obtain⟨k,hk1,hk,rfl,HB⟩:=hrel;obtain⟨w0,hw0⟩:∃w0,w0=wr:=⟨_,rfl⟩;subst hw0;by_cases hlt:k<fs.length
  ·have hki:(k:Int)<(fs.length:Int):=(by omega);obtain⟨f,hf⟩:∃f,fs[k - 1]?=some f:=⟨_,List.getElem?_eq_getElem (by omega)⟩;obtain⟨g,hg⟩:∃g,fs[k]?=some g:=⟨_,List.getElem?_eq_getElem hlt⟩;have hfg:f.first<=g.first:=HS.out (k - 1) f g hf (by rw[show k - 1+1=k from by omega];exact hg);have CF:=qh (cmpFound g f (HBD.out _ (List.mem_of_getElem? hg)) (HBD.out _ (List.mem_of_getElem? hf)) hfg);have hrow:=HR.out.below HB.out;obtain⟨xb,off,rfl,hxb,hcells⟩:=hrow.at_ (by rw[List.length_map];omega);have hfr:(fs.map fdRow)[k - 1]?=some (fdRow f):=(by rw[List.getElem?_map,hf];rfl);have hgr:(fs.map fdRow)[k]?=some (fdRow g):=(by rw[List.getElem?_map,hg];rfl);have HC:=qh (And.intro hxb (And.intro (hcells _ _ hfr) (hcells _ _ hgr)));clear hf hg hfg hrow hxb hcells hfr hgr;go_wp2_with fail;go_loopw [9] (fun s9 wx=>s9=.int .i64 (k:Int)/\w0=wx) (fun _ _=>0)
   case atStart=>exact⟨rfl,by first | rfl | trivial⟩
   case round =>
    obtain⟨rfl,rfl⟩:=hrel;have hg0:decide (0<k)=true:=(by simp;omega);have hw1:IntKind.i64.wrap ((k:Int) - 1)=((k - 1:Nat):Int):=(by rw[IntWalk.i64_in _ (by omega)];omega);have hi1:((k - 1:Nat):Int)<(fs.length:Int):=(by omega);have hi0:(0:Int)<=((k - 1:Nat):Int):=(by omega);go_upto_region 4 with fail;refine zf (by kernel_rfl) [(0,none),(1,none),(2,none),(3,none),(4,none),(5,none),(6,none),(7,none),(8,none),(9,none),(10,none),(11,none),(12,none),(13,none),(14,some [3,4,8,13]),(15,none),(16,none)] (by kernel_rfl) (by kernel_rfl) (by decide) ?_;intro wq hwq;have hBq:Below w0.heap.size w0 wq:=(by rw[hwq];exact(Below.refl _ _).drew);have hlt2:=HC.out.1;have a0:wq.cell? ⟨xb,off+(k - 1)*3,none⟩=some (.string ⟨f.name.toArray⟩):=(hBq.cell (p:=⟨xb,_,none⟩) hlt2).trans (by simpa using HC.out.2.1 0 _ rfl);have a1:wq.cell? ⟨xb,off+(k - 1)*3+1,none⟩=some (.int .u64 (f.era:Int)):=(hBq.cell (p:=⟨xb,_,none⟩) hlt2).trans (HC.out.2.1 1 _ rfl);have a2:wq.cell? ⟨xb,off+(k - 1)*3+2,none⟩=some (.int .u64 (f.first:Int)):=(hBq.cell (p:=⟨xb,_,none⟩) hlt2).trans (HC.out.2.1 2 _ rfl);have b0:wq.cell? ⟨xb,off+k*3,none⟩=some (.string ⟨g.name.toArray⟩):=(hBq.cell (p:=⟨xb,_,none⟩) hlt2).trans (by simpa using HC.out.2.2 0 _ rfl);have b1:wq.cell? ⟨xb,off+k*3+1,none⟩=some (.int .u64 (g.era:Int)):=(hBq.cell (p:=⟨xb,_,none⟩) hlt2).trans (HC.out.2.2 1 _ rfl);have b2:wq.cell? ⟨xb,off+k*3+2,none⟩=some (.int .u64 (g.first:Int)):=(hBq.cell (p:=⟨xb,_,none⟩) hlt2).trans (HC.out.2.2 2 _ rfl);have CFQ:=qh (CF.out wq);have HBQ:=qh (HB.out.trans (hBq.mono HB.out.size));unfold fdRow at CFQ;clear hwq hBq CF;iterate 8 (refine zd ?_)
    refine ze [(⟨xb,off+k*3,none⟩,.string ⟨g.name.toArray⟩),(⟨xb,off+k*3+1,none⟩,.int .u64 (g.era:Int)),(⟨xb,off+k*3+2,none⟩,.int .u64 (g.first:Int))] ?_;iterate 4 (refine zd ?_)
    refine ze [(⟨xb,off+(k - 1)*3,none⟩,.string ⟨f.name.toArray⟩),(⟨xb,off+(k - 1)*3+1,none⟩,.int .u64 (f.era:Int)),(⟨xb,off+(k - 1)*3+2,none⟩,.int .u64 (f.first:Int))] ?_;refine zh rfl (by rfl) (fun K hK=>?_)
    go_simp
    refine CFQ.out.mono ?_;rintro e w5 ⟨r,rfl,hr,hb5⟩;have hrb:decide (r<0)=false:=(by simp;omega);have HB5:=qh (HBQ.out.trans (hb5.mono HBQ.out.size));clear a0 a1 a2 b0 b1 b2 hb5 HBQ CFQ;refine zg hK ?_;clear hK K;iterate 2 (refine zd ?_)
    refine zk ?_;have hk12:k+1<=12:=(by omega);go_wp2_with fail;go_roundw
    case rel=>exact⟨k+1,by omega,hk12,by go_num,HB5⟩
    case measure=>simp[intOf];omega
  ·have hki:¬(k:Int)<(fs.length:Int):=(by omega);go_wp2_with fail;exact bodyPost_end (v:=.tuple #[]) (by kernel_rfl) rfl ⟨rfl,HB.out⟩
theorem ze1(X:Option Addr)(c:Nat)(fs:List Fd)(l:Int)(w:World)(h:RS w X 3 (fs.map fdRow))(hs:Sorted1 fs)(hb:∀f∈fs,f.first<18446744073709551616)(hn:fs.length<=12) :
  Calls Tryz.prog 130 #[.slice X fs.length c,.int .i64 0,.int .i64 (fs.length:Int),.int .i64 l,cmpV] w fun e w'=>e=.returned (.tuple #[])/\Below w.heap.size w w':=by
 have I1:=qh (zeM X c fs w h hs hb hn);obtain⟨n,hn0⟩:∃n,n=fs.length:=⟨_,rfl⟩;rw[<-hn0] at I1 hn;rw[<-hn0];clear h hs hb hn0;go_enter Tryz.func130,Tryz.ntmps130;have hw:IntKind.i64.wrap ((n:Int) - 0)=(n:Int):=by rw[Int.sub_zero];exact IntWalk.i64_in _ (by omega)
 have hw2:IntKind.i64.wrap (n:Int)=(n:Int):=IntWalk.i64_in _ (by omega);have h12:(n:Int)<=12:=by omega
 go_wp2_with fail;go_loopw [1,2] (fun s1 s2 wr=>s1=.int .i64 0/\s2=.int .i64 (n:Int)/\wr=w) (fun _ _ _=>0)
 case atStart=>exact⟨rfl,rfl,by first | rfl | trivial⟩
 case round =>
  obtain⟨rfl,rfl,rfl⟩:=hrel;go_wp2_with (go_at_call 179;refine I1.out.mono ?_);first | rintro e w2 ⟨rfl,b2⟩ | rintro e w2 rfl b2
  have B2:=qh b2;clear b2;go_wp2_with fail;exact bodyPost_ret (v:=.tuple #[]) (by kernel_rfl) rfl ⟨rfl,B2.out⟩
theorem zd1(X:Option Addr)(c:Nat)(fs:List Fd)(w:World)(h:RS w X 3 (fs.map fdRow))(hs:Sorted1 fs)(hb:∀f∈fs,f.first<18446744073709551616)(hn:fs.length<=12) :
  Calls Tryz.prog 66 #[.slice X fs.length c,cmpV] w fun e w'=>e=.returned (.tuple #[])/\Below w.heap.size w w':=by
 have P1:Hid (∀l:Int,Calls Tryz.prog 130 #[.slice X fs.length c,.int .i64 0,.int .i64 (fs.length:Int),.int .i64 l,cmpV] w fun e w'=>e=.returned (.tuple #[])/\Below w.heap.size w w'):=qh (fun l=>ze1 X c fs l w h hs hb hn);obtain⟨n,hn0⟩:∃n,n=fs.length:=⟨_,rfl⟩;rw[<-hn0] at P1 hn;rw[<-hn0];have L1:=qh (Tryz.bits_Len (n:Int) w (by omega) (by omega));clear h hs hb hn0;go_enter Tryz.func66,Tryz.ntmps66;have hw:IntKind.u64.wrap (n:Int)=(n:Int):=IntWalk.u64_in _ (by omega);go_wp2_with (go_at_call 131;refine L1.out.mono ?_);first | rintro e w2 ⟨rfl,rfl⟩ | rintro e w2 rfl rfl
 go_wp2_with (go_at_call 130;refine(P1.out _).mono ?_);first | rintro e w2 ⟨rfl,b2⟩ | rintro e w2 rfl b2
 have B2:=qh b2;clear b2;go_wp2_with fail;exact bodyPost_end (v:=.tuple #[]) (by kernel_rfl) rfl ⟨rfl,B2.out⟩
end
theorem zcf{l:List Nm}{k:Nat}(h:k<l.length):foundL (l.take (k+1))=foundL (l.take k)++(match partsN l[k] with | none=>[] | some p=>[⟨l[k],p.1,p.2⟩]):=by
 rw[List.take_succ_eq_append_getElem h];unfold foundL;rw[List.filterMap_append];congr 1;cases hp:partsN l[k]<;>simp[hp]
theorem zam{l:List Nm}{f:Fd}(h:f∈foundL l):f.name∈l/\partsN f.name=some (f.era,f.first):=by
 unfold foundL at h;obtain⟨m,hm,e⟩:=List.mem_filterMap.1 h;cases hp:partsN m with
 | none=>rw[hp] at e;cases e
 | some p =>
  rw[hp] at e;simp only[Option.map_some,Option.some.injEq] at e;subst e;exact⟨hm,hp⟩
theorem zbx(l:List Nm):(foundL l).map Fd.name=l.filter fun n=>(partsN n).isSome:=by
 induction l with
 | nil=>rfl
 | cons n r ih =>
  unfold foundL at ih ⊢;rw[List.filterMap_cons,List.filter_cons];cases hp:partsN n with
  | none=>simpa using ih
  | some p=>simpa using ih
theorem zdG(l:List Nm)(k:Nat):∃r,foundL l=foundL (l.take k)++r:=by
 refine⟨foundL (l.drop k),?_⟩;unfold foundL;rw[<-List.filterMap_append,List.take_append_drop]
theorem zey(l:List Fd)(f:Fd):eraL (l++[f])=max (eraL l) f.era:=by
 unfold eraL;rw[List.foldl_append];rfl
theorem zex:∀(l:List Fd) (m:Nat),m<=l.foldl (fun m f=>max m f.era) m
 | [],_m=>Nat.le_refl _
 | _f::l,_m=>Nat.le_trans (Nat.le_max_left _ _) (zex l _)
theorem zew:∀(l:List Fd) (m:Nat),l.foldl (fun m f=>max m f.era) m=m\/∃f∈l,f.era=l.foldl (fun m f=>max m f.era) m
 | [],m=>.inl rfl
 | f::l,m=>by
  rw[List.foldl_cons]
  rcases zew l (max m f.era) with h | ⟨g,hg,h⟩
  ·rw[h];by_cases hm:f.era<=m
   ·exact .inl (by omega)
   ·exact .inr ⟨f,List.mem_cons_self ..,by omega⟩
  ·exact .inr ⟨g,List.mem_cons_of_mem _ hg,h⟩
theorem eraL_mem{l:List Fd}(h:l≠[]):∃f∈l,f.era=eraL l:=by
 rcases zew l 0 with h0 | h0
 ·cases l with
  | nil=>exact absurd rfl h
  | cons f r =>
   refine⟨f,List.mem_cons_self ..,?_⟩;have:f.era<=(f::r).foldl (fun m f=>max m f.era) 0:=by
    rw[List.foldl_cons];exact Nat.le_trans (Nat.le_max_right 0 f.era) (zex r _)
   unfold eraL;omega
 ·exact h0
structure OpG(B:Nat)(S:Nat->Prop)(w:World)(g:Nat)(D:DSt)(nb:Nat)(fl:List Fd)(X:Option Addr)(cx:Nat)(wr:World):Prop where
 lx:LX B S (·=w.heap.size) wr w.heap.size g { lg0 with era:=eraL fl } D [] [] none 0 none 0
 row:OR wr nb TF 3 X cx (fl.map fdRow)
 bel:Below w.heap.size w wr
 nbl:nb<=wr.heap.size
section
variable {B g:Nat} {S:Nat->Prop} {w w':World} {D:DSt}
theorem OpG.below{nb cx:Nat}{fl:List Fd}{X:Option Addr}{wr wa:World}(h:OpG B S w g D nb fl X cx wr)(hb:Below wr.heap.size wr wa):OpG B S w g D nb fl X cx wa :=
 ⟨h.lx.below hb,h.row.below hb,h.bel.trans (hb.mono h.bel.size),Nat.le_trans h.nbl hb.size⟩
theorem walOpenG(h:DI S w g D)(hd:D.down=false)(hne:foundL (namesD D)≠[])(hso:Sorted1 (foundL (namesD D)))(hsf:sortF (foundL (namesD D))=foundL (namesD D))(h12:(foundL (namesD D)).length<=12)(hnl:∀f∈namesD D,f.length<=1000/\nameOk f=true)(hlen:(namesD D).length<=1000)
  (hbd:∀f∈foundL (namesD D),f.era<=1000000000000/\f.first<=1000000000000) (hB:B<=w.heap.size) (hS:∀b,S b->B<=b) (hE:WEnv B w) (hcnt:D.cnt<=1000) (hfn:∀q∈D.files,q.1.length<=9223372036854775807) :
  Calls Tryz.prog 27 #[.pointer (some ⟨g,0,none⟩)] w (OpenE B S w g (openW D)):=by
 obtain⟨q,hq⟩:∃q,q=openW D:=⟨_,rfl⟩;rw[<-hq];have HQ:Hid (q=loadF (foundL (namesD D)) { lg0 with era:=eraL (foundL (namesD D)) } true D):=qh (by rw[hq];unfold openW;rw[hsf]);clear hq;have hget:=fun f hf=>zbF h (f:=f) hf
 have hnd:=qy h;have hbnS:=h.bnd;obtain⟨nms,hnm⟩:∃nms,nms=namesD D:=⟨_,rfl⟩;rw[<-hnm] at hne hso h12 hnl hbd hget hnd HQ hlen;have DN:=qh (qi h);rw[hd] at DN;obtain⟨w2,hw2⟩:∃w2,w2=w.alloc (.cells #[.pointer (some ⟨g,0,none⟩),.int .u64 0,.slice none 0 0,.slice none 0 0,.int .u64 1,.bool false] TL):=⟨_,rfl⟩;have hb2:Below w.heap.size w w2:=by rw[hw2];exact(Below.refl _ _).alloc (Nat.le_refl _) _
 have hp2:Blk w2 w.heap.size TL #[.pointer (some ⟨g,0,none⟩),.int .u64 0,.slice none 0 0,.slice none 0 0,.int .u64 1,.bool false]:=by rw[hw2];exact Blk.new w _ TL
 have hlt2:w.heap.size<w2.heap.size:=hp2.lt;have NM:=qh (xd (h.below hb2) (Nat.le_trans hcnt (by decide)) hfn);rw[<-hnm] at NM;have HD:=qh h;have HS:=qh hS;have HE:=qh hE;have HP:=qh hp2;have HB2:=qh hb2;have HW2:=qh hw2;have HNL:=qh hnl;have HBS:=qh hbnS;have HFB:Hid ((foundL nms).length<=12):=qh h12;have HOK:Hid (∀(nb cx:Nat) (X:Option Addr) (wa:World),OpG B S w g D nb (foundL nms) X cx wa->w.heap.size<nb->LdOk S (·=w.heap.size) wa { lg0 with era:=eraL (foundL nms) } D X (foundL nms)):=qh (fun nb cx X wa ho hnb =>
  {row:=ho.row.rs
   apart:=fun b hb=>by
    have h1:=(ho.row.blk_lt b hb).1;exact⟨fun e=>by have:=hbnS b e;omega,fun e=>by omega⟩
   bnd:=fun f hf=>by
    have h1:=zam hf;have h2:=hbd f hf;exact⟨(hnl _ h1.1).1,h2.1,h2.2,(hnl _ h1.1).2⟩
   ex:=fun f hf=>by
    obtain⟨l,h1,h2⟩:=hget _ (zam hf).1;exact⟨l,h1,by omega⟩
   nd:=by
    rw[zbx];exact hnd.filter _
   era:=eraL_mem hne
   len:=by omega })
 have HSO:Hid (Sorted1 (foundL nms)/\∀f∈foundL nms,f.first<18446744073709551616):=qh ⟨hso,fun f hf=>by have:=(hbd f hf).2;omega⟩;have HDN:=qh hd;rw[hw2] at NM;clear h hS hE hp2 hb2 hw2 hd hnm hne hso hsf h12 hnl hbd hfn hget hnd hbnS;go_enter Tryz.func27,Tryz.ntmps27;go_wp2_with (first
  | (go_at_call 57;refine DN.out.mono ?_;first | rintro e w1 ⟨rfl,rfl⟩ | rintro e w1 rfl rfl)
  | (go_at_call 30;refine NM.out.mono ?_))
 rw[<-HW2.out];rintro e w3 ⟨A,cA,rfl,hoA,hb3⟩;have hL3:LX B S (·=w.heap.size) w3 w.heap.size g lg0 D [] [] none 0 none 0:=(LX.fresh (p:=w.heap.size) (HD.out.below HB2.out) HP.out hB (fun hs=>by have:=HD.out.bnd _ hs;omega) HS.out).below hb3;have hB3:=HB2.out.trans (hb3.mono HB2.out.size);have hlt3:w.heap.size<w3.heap.size:=hL3.blk.lt;have HO3:Hid (OpG B S w g D w3.heap.size [] none 0 w3):=qh ⟨hL3,OR.nil _ _ _ _,hB3,Nat.le_refl _⟩;have HOA:=qh hoA;clear NM hL3 hB3 hoA hb3 HP HB2 HW2 HD HS;go_wp2_with fail;go_loopw [5,22] (fun s5 s22 wr=>∃(k n5:Nat) (X:Option Addr) (cx:Nat),k<=nms.length/\s22=.int .i64 (k:Int)/\n5=(foundL (nms.take k)).length/\s5=.slice X n5 cx/\Hid (Mods (fun b=>b=w.heap.size\/w3.heap.size<=b) w3 wr)/\Hid (OpG B S w g D w3.heap.size (foundL (nms.take k)) X cx wr)) (fun _ s22 _=>nms.length - (intOf s22).toNat)
 case atStart=>exact⟨0,0,none,0,Nat.zero_le _,rfl,rfl,rfl,qh (Mods.refl _ _),HO3⟩
 case round =>
  obtain⟨k,n5,X,cx,hk,rfl,hn5,rfl,HM,HO⟩:=hrel;by_cases hlt:k<nms.length
  ·have hov:=HOA.out.mods HM.out (fun b hb e=>by have:=(HOA.out.blk_lt b hb);omega);obtain⟨xa,off,rfl,hbl2,hcn⟩:=hov.rv.cell (j:=k) (by rw[List.length_map];exact hlt);rw[List.getElem_map] at hcn;simp only[encStr] at hcn;have hsr:w.heap.size<=wr.heap.size:=HO.out.bel.size;have hbr:Below w.heap.size w wr:=HO.out.bel;have hst:=zcf hlt;have hpre:=zdG nms k;have HNK:=qh (HNL.out _ (List.getElem_mem hlt));have PA:=qh (walParts nms[k] B wr HNK.out.1 (HE.out.below (hbr.mono hB)) (Nat.le_trans hB hsr));clear hov hbr;cases hpn:partsN nms[k] with
   | none =>
    rw[hpn] at PA hst;rw[List.append_nil] at hst;have HST:=qh hst;clear hst hpn hpre HNK;generalize nms[k]=nm at *;go_wp2_with fail;refine PA.out.mono ?_;rintro e w4 ⟨hb4,x,y,rfl,hxy⟩;have HM4:=qh (HM.out.below hb4);have HO4:=qh (HO.out.below hb4);clear hb4 hxy PA HM HO;go_wp2_with fail;go_roundw
    case rel=>exact⟨k+1,_,X,cx,by omega,by go_num,by rw[HST.out],rfl,HM4,by rw[HST.out];exact HO4⟩
    case measure=>simp[intOf];omega
   | some p =>
    obtain⟨e',n'⟩:=p;rw[hpn] at PA hst;simp only at hst;obtain⟨fl,hfl⟩:∃fl,fl=foundL (nms.take k):=⟨_,rfl⟩;rw[<-hfl] at hst HO hn5 hpre;have hl12:fl.length<=12:=by
     obtain⟨r,hr⟩:=hpre;have:=HFB.out;rw[hr,List.length_append] at this;omega
    have HST:=qh hst;have HFL:=qh hfl;clear hst hpn hpre HNK hfl;generalize nms[k]=nm at *;subst hn5;obtain⟨i0,hi0,hz0,hz1,hz2⟩:=info_parts zdH;go_wp2_with fail;refine PA.out.mono ?_;rintro e w4 ⟨hb4,x,y,rfl,hxy⟩;obtain⟨rfl,rfl⟩:=hxy _ _ rfl;clear hxy;have hL5:=Blk.new w4 #[.string ⟨nm.toArray⟩,.int .u64 (e':Int),.int .u64 (n':Int)] TF;have hb5:Below w4.heap.size w4 (w4.alloc (.cells #[.string ⟨nm.toArray⟩,.int .u64 (e':Int),.int .u64 (n':Int)] TF)):=(Below.refl _ _).alloc (Nat.le_refl _) _;have HL5:=qh hL5;have HO5:=qh ((HO.out.below hb4).below hb5);have HM5:=qh ((HM.out.below hb4).below hb5);have hs5:w3.heap.size<=(w4.alloc (.cells #[.string ⟨nm.toArray⟩,.int .u64 (e':Int),.int .u64 (n':Int)] TF)).heap.size:=HO5.out.nbl;have hBb5:B<=(w4.alloc (.cells #[.string ⟨nm.toArray⟩,.int .u64 (e':Int),.int .u64 (n':Int)] TF)).heap.size:=(by omega);have hb12:(fl.length+1)*32<=140737488355328/\fl.length+1<=140737488355328:=(by omega);clear hL5 hb5 PA hb4 hcn HO HM;go_wp2_with (at_builtin;refine ya _ rfl (.tmp 33) (.tmp 38) 120 TF rfl Tryz.underlying120 hi0 hz0 hz1 hz2 rfl (by decide) w3.heap.size X (some ⟨w4.heap.size,0,none⟩) cx 1 (fl.map fdRow) [[.string ⟨nm.toArray⟩,.int .u64 (e':Int),.int .u64 (n':Int)]] (by rw[List.length_map];rfl) rfl HO5.out.row (RS.lit HL5.out) (by simp) (by simp[Value.oneCell']) (by simpa using hb12.1) (by simpa using hb12.2) hs5 ?_);intro ys A9 c9 w9 hys hy1 hy2 hrow hg9 hA9;have hyl:ys.length=fl.length+1:=(by simpa using Nat.le_antisymm hy1 hy2);have hys':ys=(fl++[(⟨nm,e',n'⟩:Fd)]).map fdRow:=(by rw[hys.out,List.map_append];rfl);rw[hys'] at hrow;have mg:Mods (fun b=>w3.heap.size<=b) (w4.alloc (.cells #[.string ⟨nm.toArray⟩,.int .u64 (e':Int),.int .u64 (n':Int)] TF)) w9:=Mods.of_grown (S:=fun b=>w3.heap.size<=b) hg9 (fun b e=>(HO5.out.row.blk_lt b e).1);have HL9:=qh (HO5.out.lx.mods mg (fun b e h2=>by omega) (HO5.out.lx.lb.di.mods mg (fun b _ hs h2=>by have:=HBS.out b hs;omega)) (fun b hb=>.inl hb) hBb5);have HM9:Hid (Mods (fun b=>b=w.heap.size\/w3.heap.size<=b) w3 w9):=qh (HM5.out.trans mg (fun i hi=>.inl (.inr hi)));have HB9:Hid (Below w.heap.size w w9):=qh (HO5.out.bel.grown hg9 HO5.out.bel.size (fun b e=>by have:=(HO5.out.row.blk_lt b e).1;omega));have hs9:w3.heap.size<=w9.heap.size:=Nat.le_trans hs5 mg.size;have p1:w9.cell? ⟨w.heap.size,1,none⟩=some (.int .u64 (eraL fl:Int)):=HL9.out.blk.cell 1 rfl;have r1:w9.frozen? ⟨w.heap.size,1,none⟩=false:=HL9.out.blk.free 1;have HRW:=qh hrow;have HYS:=qh hyl;have HER:Hid (((eraL (fl++[(⟨nm,e',n'⟩:Fd)]):Nat):Int)=max (eraL fl:Int) (e':Int)):=qh (by rw[zey];simp only;omega);clear hys hy1 hy2 hrow hg9 hA9 mg HO5 HL5 hs5 HM5 hys' hyl hBb5 hb12;have mp:Mods (·=w.heap.size) w9 (w9.setCell ⟨w.heap.size,1,none⟩ (.int .u64 (max (eraL fl:Int) (e':Int)))):=(Mods.refl (·=w.heap.size) w9).setCell ⟨w.heap.size,_,none⟩ (.inl rfl) _;have HO:Hid (OpG B S w g D w3.heap.size (fl++[⟨nm,e',n'⟩]) A9 c9 (w9.setCell ⟨w.heap.size,1,none⟩ (.int .u64 (max (eraL fl:Int) (e':Int))))):=qh
     ⟨by rw[<-HER.out];exact HL9.out.set 1 _ rfl rfl rfl,HRW.out.mods mp (fun b hb e=>by have:=(HRW.out.blk_lt b hb).1;omega),Mods.old HB9.out mp HB9.out.size (fun i _ e=>by rw[e];exact Nat.le_refl _),Nat.le_trans hs9 mp.size⟩
    have HM10:Hid (Mods (fun b=>b=w.heap.size\/w3.heap.size<=b) w3 (w9.setCell ⟨w.heap.size,1,none⟩ (.int .u64 (max (eraL fl:Int) (e':Int))))):=qh (HM9.out.then (mp.mono (fun b _ e=>.inl e)));clear HL9 HRW HB9 mp HM9 HER;go_wp2_with fail;go_roundw
    case rel=>exact⟨k+1,_,A9,c9,by omega,by go_num,by rw[HYS.out,HST.out];simp,rfl,HM10,by rw[HST.out];exact HO⟩
    case measure=>simp[intOf];omega
  ·obtain rfl:k=nms.length:=(by omega);rw[List.take_length] at HO hn5;subst hn5;have SO:=qh (zd1 X cx (foundL nms) wr HO.out.row.rs HSO.out.1 HSO.out.2 HFB.out);clear HOA HE HSO HM hk hlt;go_wp2_with (go_at_call 66;refine SO.out.mono ?_);first | rintro e w4 ⟨rfl,hb4⟩ | rintro e w4 rfl hb4
   have HO4:=qh (HO.out.below hb4);have hsr:w.heap.size<=w4.heap.size:=HO4.out.bel.size;have LO:=qh (walLoadG HO4.out.lx rfl rfl (Nat.le_trans hB hsr) (Nat.le_trans hcnt (by decide)) HDN.out (by show(1:Nat)<=1000000000000;decide) X cx (foundL nms) (HOK.out _ _ _ _ HO4.out hlt3));rw[<-HQ.out] at LO;have HBR:=qh HO4.out.bel;clear SO HQ HO4 HOK HO hb4;go_wp2_with (go_at_call 69;refine LO.out.mono ?_);rintro e w5 ⟨rfl,S',F',hl,hs',hf',hm⟩;have HF:Hid (OpenE B S w g q (.returned (.tuple #[if q.1=0 then .pointer (some ⟨w.heap.size,0,none⟩) else .pointer none,.int .i64 q.1])) w5):=qh ⟨w.heap.size,S',F',rfl,hl,fun b hb=>(hs' b hb).imp id (fun h=>by omega),fun b hb=>(hf' b hb).elim (fun e=>by rw[e];exact Nat.le_refl _) (fun h=>by omega),(Mods.of_below HBR.out).trans hm (fun i hi=>hi.elim .inl (fun e=>.inr (by rw[e];exact Nat.le_refl _)))⟩;clear LO hl hs' hf' hm HBR;by_cases hq0:q.1=0
   ·have hqb:(q.1 == 0)=true:=(by simpa using hq0);rw[if_pos hq0] at HF;go_wp2_with fail
    go_ret2
    rw[hq0] at HF;exact HF.out
   ·have hqb:(q.1 == 0)=false:=(by simpa using hq0);rw[if_neg hq0] at HF;go_wp2_with fail
    go_ret2
    exact HF.out
end
end Go.Proofs.YtobdmlejabjmiaaGreatDoor
