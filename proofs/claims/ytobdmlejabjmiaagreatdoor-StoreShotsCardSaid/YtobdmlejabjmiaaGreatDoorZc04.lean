/- Made small by a program. -/
import Derived.Test.YtobdmlejabjmiaaGreatDoorZc03
import Derived.Deep.CondSized
import Derived.Deep.Slices
import Derived.JoinedCond
import Derived.OrdersHeld
import Derived.Deep.RegionHeld3
set_option maxRecDepth 20000
set_option maxHeartbeats 8000000
namespace Go.Proofs.YtobdmlejabjmiaaGreatDoor
open Go.ChangeShapes Go.WideShapes Go.ChangeAt Go.RowKit
def ncells(k:IntKind)(zs:List Int):List Value:=zs.map (Value.int k)
theorem zp(k:IntKind)(zs:List Int):(ncells k zs).length=zs.length:=by simp[ncells]
theorem jy{x:Int}(h:(Lit.int .u64 x).wf=true):0<=x/\x<=18446744073709551615:=by
 simp[Lit.wf,IntKind.min,IntKind.max,IntKind.signed,IntKind.bits] at h;exact⟨by omega,by omega⟩
theorem u8_of_wf{x:Int}(h:(Lit.int .u8 x).wf=true):0<=x/\x<=255:=by
 simp[Lit.wf,IntKind.min,IntKind.max,IntKind.signed,IntKind.bits] at h;exact⟨by omega,by omega⟩
structure Came{H:Type}(W:World)(k:IntKind)(A:Option Addr)(c:Nat)(zs:List Int)(d:DataW H):Prop where
 reads:RV W A (ncells k zs)
 wf:∀z∈zs,(Lit.int k z).wf=true
 cap:zs.length<=c
 most:c<=9223372036854775807
 none_:A=none->c=0
 datum:(d=.nil/\zs=[])\/∃elems spare,d=.slice elems spare/\elems.length=zs.length
theorem zbo{H:Type}{enc:TypeId × Value->H}{W:World}{t e:TypeId}{k:IntKind}{fuel:Nat}{cs:List Value}{x:DataW H × List MemPlace}
  (ht:Tryz.prog.underlying t=some (.slice e)) (he:Tryz.prog.underlying e=some (.int k)) (hc:Tryz.prog.cellsOf e=1)
  (hf:DataW.trod enc Tryz.prog W 0 (fun _=>true) true fuel t cs=some x):∃A c zs,cs=[.slice A zs.length c]/\Came W k A c zs x.1:=by
 rcases open_ints ht he hc hf with⟨hcs,hx⟩ | ⟨a,len',cap',zs,hcs,_,hl,hm,hz,hx,hcell,hwz⟩
 ·subst hcs;exact⟨none,0,[],rfl,⟨by simpa [ncells] using RV.nil,by simp,by simp,by omega,fun _=>rfl,.inl ⟨by rw[hx],rfl⟩⟩⟩
 ·subst hcs;have hz':zs.length=cap':=by simpa using hz
  have hlen:(zs.take len').length=len':=by simp;omega
  refine⟨some a,cap',zs.take len',by rw[hlen],⟨⟨fun hn=>?_⟩,fun z hz=>hwz z (List.mem_of_mem_take hz),by omega,by unfold maxLen at hm;omega,by simp,.inr ⟨_,_,by rw[hx],by simp[lits]⟩⟩⟩;rw[zp,hlen] at hn;have h0:=hcell 0 (by omega);obtain⟨b,off,spot⟩:=a;have hspot:spot=none:=by simpa [Addr.add] using World.cell?_spot h0
  subst hspot;have hadd:∀j,(⟨b,off,none⟩:Addr).add j=⟨b,off+j,none⟩:=by intro j;unfold Addr.add;split<;>simp_all
  refine⟨b,off,rfl,World.block_lt_of_cell? W ⟨b,off,none⟩ (u:=.int k (zs.getD 0 0)) (by simpa [Addr.add] using h0),fun j x hx=>?_⟩;have hj:j<len':=by
   have:=(List.getElem?_eq_some_iff.1 hx).1;simp[ncells] at this;omega
  have hc:=hcell j (by omega);rw[hadd] at hc;rw[hc];simp only[ncells,List.getElem?_map,List.getElem?_take,if_pos hj] at hx;rw[List.getElem?_eq_getElem (by omega)] at hx;simp only[Option.map_some,Option.some.injEq] at hx;rw[<-hx,List.getD_eq_getElem?_getD,List.getElem?_eq_getElem (by omega)]
  rfl
theorem came{H:Type}{enc:TypeId × Value->H}{W:World}{base:Nat}{t e:TypeId}{k:IntKind}{v:Value}{d:DataW H}{p:List MemPlace}
  (ht:Tryz.prog.underlying t=some (.slice e)) (he:Tryz.prog.underlying e=some (.int k)) (hc:Tryz.prog.cellsOf e=1)
  (hv:Value.okWide Tryz.prog W .any base t v) (h:DataW.Trod enc Tryz.prog W 0 (fun _=>true) true t v d p) :
  ∃A c zs,v=.slice A zs.length c/\Came W k A c zs d:=by
 obtain⟨A,len,cap,rfl⟩:=okWide_slice ht hv;obtain⟨fuel,hf⟩:=h;obtain⟨A',c',zs,hcs,hcm⟩:=zbo ht he hc hf;simp[Value.cells] at hcs;obtain⟨rfl,rfl,rfl⟩:=hcs;exact⟨_,_,zs,rfl,hcm⟩
theorem Came.bytes{H:Type}{W:World}{A:Option Addr}{c:Nat}{zs:List Int}{d:DataW H}(h:Came W .u8 A c zs d) :
  ∃l:List UInt8,l.length=zs.length/\RB W A l:=by
 have hwf:∀z∈zs,0<=z/\z<=255:=by
  intro z hz;have:=h.wf z hz;simpa [Lit.wf,IntKind.min,IntKind.max,IntKind.signed,IntKind.bits] using this
 refine⟨zs.map fun z=>UInt8.ofNat z.toNat,by simp,RB.of_rv ?_⟩;have e:bcells (zs.map fun z=>UInt8.ofNat z.toNat)=ncells .u8 zs:=by
  simp only[bcells,ncells,List.map_map];refine List.map_congr_left fun z hz=>?_
  have:=hwf z hz;simp only[Function.comp,UInt8.toNat_ofNat'];congr 1;omega
 rw[e];exact h.reads
theorem Came.sized{H:Type}{W:World}{k:IntKind}{A:Option Addr}{c:Nat}{zs:List Int}{d:DataW H}(h:Came W k A c zs d){ts:List TypeId}{ds:List (DataW H)}{j:Nat}{t e:TypeId}
  (hs:(DataW.weightsEach Tryz.prog ts ds).all (·<=reachBytes)=true) (ht:ts[j]?=some t) (hd:ds[j]?=some d) (hu:Tryz.prog.underlying t=some (.slice e)):zs.length*Tryz.prog.bytesOf e<=140737488351232:=by
 rcases h.datum with⟨_,rfl⟩ | ⟨elems,spare,rfl,he⟩
 ·simp
 ·have:=sized_slice hs ht hd hu;unfold reachBytes at this;rw[Nat.add_mul,he] at this;omega
end Go.Proofs.YtobdmlejabjmiaaGreatDoor
namespace Go.Proofs.YtobdmlejabjmiaaGreatDoor
open Go.RowKit
section
variable {w w':World}
theorem yj{T:Nat->Prop}{A:Option Addr}{xs:List Value}(h:RV w A xs)(m:Mods T w w')(hn:0<xs.length->∀k,A.map (·.block)=some k->¬T k):RV w' A xs :=
 ⟨fun h0=>by
  obtain⟨b,off,rfl,hb,hc⟩:=h.at_ h0;exact⟨b,off,rfl,Nat.lt_of_lt_of_le hb m.size,fun j u hu=>(m.cell (p:=⟨b,off+j,none⟩) hb (hn h0 b rfl)).trans (hc j u hu)⟩⟩
theorem RV.int{k:IntKind}{A:Option Addr}{l:List Int}(h:RV w A (ncells k l)){j:Nat}(hj:j<l.length):∃b off,A=some ⟨b,off,none⟩/\b<w.heap.size/\w.cell? ⟨b,off+j,none⟩=some (.int k l[j]):=by
 obtain⟨b,off,rfl,hb,hc⟩:=h.cell (j:=j) (by rw[zp];exact hj);rw[show(ncells k l)[j]'(by rw[zp];exact hj)=.int k l[j] from by simp[ncells]] at hc;exact⟨b,off,rfl,hb,hc⟩
theorem zaV{l:List Int}{k:Nat}(h:k<l.length):l.getD k 0=l[k]:=by simp[List.getD_eq_getElem?_getD,h]
theorem zc7(A:Option Addr)(c:Nat)(l:List Int)(w:World)(h:RV w A (ncells .i64 l))(hl:l.length<=9223372036854775807) :
  Calls Tryz.prog 158 #[.slice A l.length c] w fun e w'=>e=.returned (.bool (risesB l))/\w=w':=by
 have HR:=qh h;clear h;go_enter Tryz.func158,Tryz.ntmps158;go_wp2_with fail;go_loop [7] (fun i=>∃k:Nat,k<=l.length/\i=.int .i64 (k:Int)/\Hid (∀j,j<k->riseAt l j=true))
  (fun i=>l.length - (intOf i).toNat)
 case atStart=>exact⟨0,Nat.zero_le _,rfl,qh (fun j hj=>absurd hj (Nat.not_lt_zero _))⟩
 case round =>
  obtain⟨k,hk,rfl,HK⟩:=hrel;by_cases hlt:k<l.length
  ·obtain⟨b,off,rfl,hb,hc⟩:=HR.out.int hlt;have HX:=qh (zaV hlt);obtain⟨x,hx⟩:∃x,x=l[k]:=⟨_,rfl⟩;rw[<-hx] at hc HX;clear hx;by_cases h1:x<1
   ·have HF:Hid (risesB l=false):=qh (xl hlt (by unfold riseAt;rw[HX.out];simp;omega));go_wp2_with fail;go_ret;exact⟨by rw[HF.out];rfl,rfl⟩
   ·by_cases h2:16<x
    ·have HF:Hid (risesB l=false):=qh (xl hlt (by unfold riseAt;rw[HX.out];simp;omega));go_wp2_with fail;go_ret;exact⟨by rw[HF.out];rfl,rfl⟩
    ·by_cases h0:k=0
     ·subst h0;rw[Nat.add_zero] at hc;have HT:Hid (∀j,j<0+1->riseAt l j=true):=qh (fun j hj=>by
       obtain rfl:j=0:=(by omega);unfold riseAt;rw[HX.out];simp;omega)
      clear HK HX;go_wp2_with fail
      go_round
      case rel=>exact⟨0+1,by omega,by go_num,HT⟩
      case measure=>simp[intOf];omega
     ·obtain⟨b',off',e',hb',hc'⟩:=HR.out.int (j:=k - 1) (by omega);injection e' with e'
      injection e' with e1 e2
      subst e1 e2;have HY:=qh (zaV (l:=l) (k:=k - 1) (by omega));obtain⟨y,hy⟩:∃y,y=l[k - 1]:=⟨_,rfl⟩;rw[<-hy] at hc' HY;clear hy;have hk1:((k:Int) - 1).toNat=k - 1:=(by omega);have hk2:(k:Int) - 1=((k - 1:Nat):Int):=(by omega);by_cases h3:x<=y
      ·have HF:Hid (risesB l=false):=qh (xl hlt (by unfold riseAt;rw[HX.out,HY.out];simp;omega));go_wp2_with fail;go_ret;exact⟨by rw[HF.out];rfl,rfl⟩
      ·have HT:Hid (∀j,j<k+1->riseAt l j=true):=qh (fun j hj=>by
        rcases Nat.lt_or_ge j k with h | h
        ·exact HK.out j h
        ·obtain rfl:j=k:=(by omega);unfold riseAt;rw[HX.out,HY.out];simp;omega)
       clear HK HX HY;go_wp2_with fail
       go_round
       case rel=>exact⟨k+1,by omega,by go_num,HT⟩
       case measure=>simp[intOf];omega
  ·have HF:Hid (risesB l=true):=qh (zaA fun j hj=>HK.out j (by omega));go_wp2_with fail;go_ret;exact⟨by rw[HF.out];rfl,rfl⟩
def OutAt(B o:Nat)(w:World)(l:List UInt8):Prop:=∃A c,Blk w o 182 #[.slice A l.length c]/\OB w B A c l
theorem OutAt.below{B o:Nat}{l:List UInt8}(h:OutAt B o w l)(hb:Below w.heap.size w w'):OutAt B o w' l:=by
 obtain⟨A,c,h1,h2⟩:=h;exact⟨A,c,h1.kept hb,h2.below hb⟩
theorem OutAt.cast{B o:Nat}{l m:List UInt8}(h:OutAt B o w l)(e:l=m):OutAt B o w m:=by subst e;exact h
theorem OutAt.lt{B o:Nat}{l:List UInt8}(h:OutAt B o w l):o<w.heap.size:=by
 obtain⟨A,c,h1,_⟩:=h;exact h1.lt
def OutE(B o:Nat)(l:List UInt8)(w:World)(e:Ending)(w':World):Prop:=e=.returned (.tuple #[])/\OutAt B o w' l/\Mods (·=o) w w'
theorem zdc{B o:Nat}{A:Option Addr}{c:Nat}{l k:List UInt8}{w1:World}(h:OutAt B o w l)(hB:B<=w.heap.size)(hBo:o<B)(ho:OB w1 w.heap.size A c k)(hb:Below w.heap.size w w1) :
  OutAt B o (w1.setCell ⟨o,0,none⟩ (.slice A k.length c)) k/\Mods (·=o) w (w1.setCell ⟨o,0,none⟩ (.slice A k.length c)):=by
 obtain⟨A0,c0,h1,h2⟩:=h;have h3:=(h1.kept hb).setCell 0 (.slice A k.length c);exact⟨⟨A,c,h3,(ho.base_le hB).setCell (a:=⟨o,0,none⟩) hBo _⟩,(Mods.of_below (S:=(·=o)) hb).setCell ⟨o,0,none⟩ (.inl rfl) _⟩
theorem za1(B o:Nat)(l:List UInt8)(X:Option Addr)(cx:Nat)(ns:List Int)(w:World)(h:OutAt B o w l)(hB:B<=w.heap.size)(hBo:o<B)(hX:RV w X (ncells .u64 ns))(hne:0<ns.length->∀b,X.map (·.block)=some b->b≠o)
  (hns:∀n∈ns,0<=n/\n<=18446744073709551615) (hl:l.length+9*ns.length<=200000000000000) :
  Calls Tryz.prog 109 #[.pointer (some ⟨o,0,none⟩),.slice X ns.length cx] w (OutE B o (l++putNums ns) w):=by
 have HX:=qh hX;have HN:=qh hne;have HS:=qh hns;have H0:=qh h;clear h hX hne hns;go_enter Tryz.func109,Tryz.ntmps109;go_wp2_with fail;go_loopw [8] (fun i wr=>∃k:Nat,k<=ns.length/\i=.int .i64 (k:Int)/\Hid (OutAt B o wr (l++putNums (ns.take k)))/\Hid (Mods (·=o) w wr))
  (fun i _=>ns.length - (intOf i).toNat)
 case atStart=>exact⟨0,Nat.zero_le _,rfl,qh (H0.out.cast (by simp[putNums])),qh (Mods.refl _ _)⟩
 case round =>
  obtain⟨k,hk,rfl,HO,HM⟩:=hrel;by_cases hlt:k<ns.length
  ·obtain⟨b,off,rfl,hb,hc⟩:=(yj HX.out HM.out (fun _ b hb=>HN.out (by omega) b hb)).int hlt;have hr:=HS.out ns[k] (List.getElem_mem hlt);obtain⟨q,hq⟩:∃q,q=l++putNums (ns.take k):=⟨_,rfl⟩;have hql:q.length<=l.length+9*k:=by
    have:=zw (ns.take k);rw[List.length_take] at this;rw[hq,List.length_append];have:min k ns.length=k:=(by omega);omega
   have HQ:Hid (l++putNums (ns.take (k+1))=q++putNum ns[k].toNat):=qh (by rw[xG ns k hlt,hq,List.append_assoc]);rw[<-hq] at HO;obtain⟨A,c,h1,h2⟩:=HO.out;have c0:=h1.cell 0 rfl;have f0:=h1.free 0;obtain⟨n,hn⟩:∃n,n=ns[k]:=⟨_,rfl⟩;rw[<-hn] at hc hr HQ;have P:=qh (zcr A c q n wr h2.rb (by omega) hr.1 hr.2);have HBw:=HM.out.size;clear hq h1 h2 hn;go_wp2_with (go_at_call 98;refine P.out.mono ?_);rintro e w2 ⟨k2,A2,c2,hk2,hk21,hk22,rfl,ho2,hb2⟩;have HK2:=qh (hk2.out.trans HQ.out.symm);have c0':=(hb2.cell (p:=⟨o,0,none⟩) (HO.out.lt)).trans c0;have f0':w2.frozen? ⟨o,0,none⟩=false:=by
    obtain⟨A',c',h1',_⟩:=HO.out.below hb2;exact h1'.free 0
   obtain⟨s1,s2⟩:=zdc HO.out (Nat.le_trans hB HBw) hBo ho2 hb2;have S1:=qh s1;have S2:=qh (HM.out.then s2);clear s1 s2 ho2 hb2 hk2 hk21 hk22 P c0 f0 HQ HO HM;go_wp2_with fail;go_roundw
   case rel=>exact⟨k+1,by omega,by go_num,qh (S1.out.cast HK2.out),S2⟩
   case measure=>simp[intOf];omega
  ·have HO':Hid (OutAt B o wr (l++putNums ns)):=qh (HO.out.cast (by rw[List.take_of_length_le (by omega)]));clear HO;go_wp2_with fail
   go_end0
   exact⟨rfl,HO'.out,HM.out⟩
theorem zeZ(B o:Nat)(l:List UInt8)(X:Option Addr)(cx:Nat)(ns:List Int)(w:World)(h:OutAt B o w l)(hB:B<=w.heap.size)(hBo:o<B)(hX:RV w X (ncells .i64 ns))(hne:0<ns.length->∀b,X.map (·.block)=some b->b≠o)
  (hns:∀n∈ns,0<=n/\n<=1000000) (hl:l.length+9*ns.length<=200000000000000) :
  Calls Tryz.prog 198 #[.pointer (some ⟨o,0,none⟩),.slice X ns.length cx] w (OutE B o (l++putNums ns) w):=by
 have HX:=qh hX;have HN:=qh hne;have HS:=qh hns;have H0:=qh h;clear h hX hne hns;go_enter Tryz.func198,Tryz.ntmps198;go_wp2_with fail;go_loopw [8] (fun i wr=>∃k:Nat,k<=ns.length/\i=.int .i64 (k:Int)/\Hid (OutAt B o wr (l++putNums (ns.take k)))/\Hid (Mods (·=o) w wr))
  (fun i _=>ns.length - (intOf i).toNat)
 case atStart=>exact⟨0,Nat.zero_le _,rfl,qh (H0.out.cast (by simp[putNums])),qh (Mods.refl _ _)⟩
 case round =>
  obtain⟨k,hk,rfl,HO,HM⟩:=hrel;by_cases hlt:k<ns.length
  ·obtain⟨b,off,rfl,hb,hc⟩:=(yj HX.out HM.out (fun _ b hb=>HN.out (by omega) b hb)).int hlt;have hr:=HS.out ns[k] (List.getElem_mem hlt);obtain⟨q,hq⟩:∃q,q=l++putNums (ns.take k):=⟨_,rfl⟩;have hql:q.length<=l.length+9*k:=by
    have:=zw (ns.take k);rw[List.length_take] at this;rw[hq,List.length_append];have:min k ns.length=k:=(by omega);omega
   have HQ:Hid (l++putNums (ns.take (k+1))=q++putNums [ns[k]]):=qh (by rw[xG ns k hlt,hq,List.append_assoc];simp[putNums]);rw[<-hq] at HO;obtain⟨n,hn⟩:∃n,n=ns[k]:=⟨_,rfl⟩;rw[<-hn] at hc hr HQ;have hwn:IntKind.u64.wrap n=n:=by
    rw[show IntKind.u64.wrap n=n % 18446744073709551616 from rfl];omega
   have HBw:=HM.out.size;have hlo:=HO.out.lt;have hal:Below wr.heap.size wr (wr.alloc (.cells #[.int .u64 n] 23)):=(Below.refl _ _).alloc (Nat.le_refl _) _;have P:=qh (za1 B o q (some ⟨wr.heap.size,0,none⟩) 1 [n] _ (HO.out.below hal) (by simp;omega) hBo (RV.one wr (.int .u64 n) 23) (fun _ b hb=>by simp at hb;omega) (fun x hx=>by rw[List.mem_singleton.1 hx];omega) (by simp;omega));have HAL:=qh hal;clear hq hn hal;go_wp2_with (go_at_call 109;refine P.out.mono ?_);rintro e w2 ⟨rfl,ho2,hm2⟩;have S1:=qh (ho2.cast HQ.out.symm);have S2:=qh ((HM.out.below HAL.out).then hm2);clear ho2 hm2 P HQ HO HM HAL;go_wp2_with fail;go_roundw
   case rel=>exact⟨k+1,by omega,by go_num,S1,S2⟩
   case measure=>simp[intOf];omega
  ·have HO':Hid (OutAt B o wr (l++putNums ns)):=qh (HO.out.cast (by rw[List.take_of_length_le (by omega)]));clear HO;go_wp2_with fail
   go_end0
   exact⟨rfl,HO'.out,HM.out⟩
theorem outIds(B o:Nat)(l:List UInt8)(X:Option Addr)(cx:Nat)(ns:List Int)(w:World)(h:OutAt B o w l)(hB:B<=w.heap.size)(hBo:o<B)(hX:RV w X (ncells .i64 ns))(hne:0<ns.length->∀b,X.map (·.block)=some b->b≠o)
  (hns:∀n∈ns,0<=n/\n<=1000000) (hn:ns.length<=1000000) (hl:l.length+9*ns.length<=190000000000000) :
  Calls Tryz.prog 163 #[.pointer (some ⟨o,0,none⟩),.slice X ns.length cx] w (OutE B o (l++idsB ns) w):=by
 have hlo:=h.lt;have hal:Below w.heap.size w (w.alloc (.cells #[.int .i64 (ns.length:Int)] 3)):=(Below.refl _ _).alloc (Nat.le_refl _) _;have P:=qh (zeZ B o l (some ⟨w.heap.size,0,none⟩) 1 [(ns.length:Int)] _ (h.below hal) (by simp;omega) hBo (RV.one w (.int .i64 (ns.length:Int)) 3) (fun _ b hb=>by simp at hb;omega) (fun x hx=>by rw[List.mem_singleton.1 hx];omega) (by simp;omega));have HX:=qh hX;have HN:=qh hne;have HS:=qh hns;have HAL:=qh hal;clear h hX hne hns hal;go_enter Tryz.func163,Tryz.ntmps163;go_wp2_with (go_at_call 198;refine P.out.mono ?_);rintro e w2 ⟨rfl,ho2,hm2⟩;have hlen:=zw [(ns.length:Int)];have M2:=qh ((Mods.of_below (S:=(·=o)) HAL.out).then hm2);have P2:=qh (zeZ B o _ X cx ns w2 ho2 (Nat.le_trans hB M2.out.size) hBo (yj HX.out M2.out (fun h0 b hb=>HN.out (by rw[zp] at h0;exact h0) b hb)) HN.out HS.out (by simp at hlen ⊢;omega));clear ho2 hm2 P;go_wp2_with (go_at_call 198;refine P2.out.mono ?_);rintro e w3 ⟨rfl,ho3,hm3⟩;go_wp2_with fail
 go_end0
 exact⟨rfl,ho3.cast (by unfold idsB;rw[List.append_assoc]),M2.out.then hm3⟩
theorem zeY(B o:Nat)(l:List UInt8)(X:Option Addr)(cx:Nat)(A:Option Addr)(c:Nat)(d:List UInt8)(w:World)(h:OutAt B o w l)(hB:B<=w.heap.size)(hBo:o<B)(hX:RBB w X [(A,c,d)])(hl:l.length+d.length<=190000000000000) :
  Calls Tryz.prog 110 #[.pointer (some ⟨o,0,none⟩),.slice X 1 cx] w (OutE B o (l++putB d) w):=by
 obtain⟨A0,c0,h1,h2⟩:=h;have hp:=putB_len d;have e0:putAll [(A,c,d)]=putB d:=by simp[putAll]
 have P:=qh (ze4 A0 X c0 cx l [(A,c,d)] w h2.rb hX (by simp) (by rw[e0];omega));rw[e0,show [(A,c,d)].length=1 from rfl] at P;have k1:=h1.cell 0 rfl;have k2:=h1.free 0;have H0:Hid (OutAt B o w l):=qh ⟨A0,c0,h1,h2⟩;clear h1 h2 hX hp e0;go_enter Tryz.func110,Tryz.ntmps110;go_wp2_with (go_at_call 166;refine P.out.mono ?_);rintro e w2 ⟨b2,A2,c2,hk2,hk21,hk22,rfl,ho2,hb2⟩;have c0':=(hb2.cell (p:=⟨o,0,none⟩) (H0.out.lt)).trans k1;have f0':w2.frozen? ⟨o,0,none⟩=false:=by
  obtain⟨A',c',h1',_⟩:=H0.out.below hb2;exact h1'.free 0
 obtain⟨s1,s2⟩:=zdc H0.out hB hBo ho2 hb2;have S1:=qh (s1.cast hk2.out);have S2:=qh s2;clear s1 s2 ho2 hb2 hk2 hk21 hk22 P k1 k2;go_wp2_with fail
 go_end0
 exact⟨rfl,S1.out,S2.out⟩
end
abbrev Obl:=List (Nat × (World->Prop))
def depB(md:Region.Mode)(ops:Array Oper)(j i:Nat):Bool :=
 match ops[j]? with
 | some o=>o.after.any fun e=>Region.binds md e && e.on == i
 | none=>false
section
variable {P:Program} {ops:Array Oper} {Q:Exit->Act->World->Prop} {md:Region.Mode}
def wpAnyO(P:Program)(md:Region.Mode)(ops:Array Oper)(Q:Exit->Act->World->Prop):Nat->Obl->Array Bool->Act->World->Prop
 | 0,_,listed,a,w=>Region.ready md ops listed=[]/\Q .normal a w
 | fuel+1,obl,listed,a,w =>
  (Region.ready md ops listed=[]->Q .normal a w) /\
  ∀j∈Region.ready md ops listed,wpOp P ops Q j (fun a' w'=>(∀p∈obl,depB md ops j p.1=false->p.2 w')/\wpAnyO P md ops Q fuel (obl.filter fun p=>!depB md ops j p.1) (listed.setIfInBounds j true) a' w') a w
theorem yY:∀(fuel:Nat) (obl:Obl) (listed:Array Bool) (a:Act) (w:World),wpAnyO P md ops Q fuel obl listed a w->wpAny P md ops Q fuel listed a w
 | 0,_,_,_,_,h=>h
 | fuel+1,_,_,_,_,h=>⟨h.1,fun i hi=>wpOp_mono (fun a' w' h'=>yY fuel _ _ a' w' h'.2) (h.2 i hi)⟩
theorem jt:∀(fuel:Nat) (obl obl':Obl) (listed:Array Bool) (a:Act) (w:World),(∀p∈obl',p∈obl)->wpAnyO P md ops Q fuel obl listed a w->wpAnyO P md ops Q fuel obl' listed a w
 | 0,_,_,_,_,_,_,h=>h
 | fuel+1,obl,obl',_,_,_,hs,h=>⟨h.1,fun j hj=>wpOp_mono (fun a' w' h'=>⟨fun p hp=>h'.1 p (hs p hp),jt fuel _ _ _ a' w' (fun p hp=>by
   rw[List.mem_filter] at hp ⊢;exact⟨hs p hp.1,hp.2⟩) h'.2⟩) (h.2 j hj)⟩
theorem xN{i:Nat}{oi:Oper}{v:Value}{S:World->Prop}(hi:ops[i]?=some oi)(hsel:∀(j:Nat) (o:Oper) cs b,ops[j]?=some o->o.op≠.select cs b)
  (hQ:∀c a w,Q (.panic c) (a.put oi.dst v) w->Q (.panic c) a w) :
  ∀(fuel:Nat) (obl:Obl) (listed:Array Bool) (a:Act) (w:World),
   (∀j oj,ops[j]?=some oj->j≠i->listed.getD j true=false->(∀e∈oj.after,Region.binds md e=true->e.on≠i)->oi.apart ops oj=true) ->
   i∈Region.ready md ops listed->YieldsIf P ops S oi v a->S w->(∀p∈obl,p.2 w) ->
   wpAnyO P md ops Q fuel ((i,S)::obl) (listed.setIfInBounds i true) (a.put oi.dst v) w->wpAnyO P md ops Q (fuel+1) obl listed a w:=by
 intro fuel
 induction fuel with
 | zero =>
  intro obl listed a w _ hr hy hS hO H;refine⟨fun h=>(by rw[h] at hr;cases hr),fun j hj=>?_⟩;by_cases hji:j=i
  ·subst hji;exact hy.wpOp hi hS ⟨fun p hp _=>hO p hp,H⟩
  ·have:=ready_mono hj hji;rw[H.1] at this;cases this
 | succ fuel ih =>
  intro obl listed a w hfree hr hy hS hO H;refine⟨fun h=>(by rw[h] at hr;cases hr),fun j hj=>?_⟩;by_cases hji:j=i
  ·subst hji;exact hy.wpOp hi hS ⟨fun p hp _=>hO p hp,jt _ _ _ _ _ _ (fun p hp=>List.mem_cons_of_mem _ (List.mem_filter.1 hp).1) H⟩
  ·have h1:=H.2 j (ready_mono hj hji);obtain⟨hjun,oj,hoj,hall⟩:=mem_ready.1 hj;have hnot:∀e∈oj.after,Region.binds md e=true->e.on≠i:=fun e he hb heq=>by
    have h1:=hall e he hb;have h0:=(mem_ready.1 hr).1;rw[heq] at h1
    rcases Nat.lt_or_ge i listed.size with h' | h'
    ·simp[h'] at h0 h1;rw[h0] at h1;cases h1
    ·simp[Array.getElem?_eq_none h'] at h1
   have hdep:depB md ops j i=false:=by
    unfold depB;rw[hoj];cases hc:(oj.after.any fun e=>Region.binds md e && e.on == i) with
    | false=>exact hc
    | true =>
     obtain⟨e,he,hb⟩:=Array.any_eq_true'.1 hc;simp only[Bool.and_eq_true,beq_iff_eq] at hb;exact absurd hb.2 (hnot e he hb.1)
   have h2:=wpOp_putIf hoj (hfree j oj hoj hji hjun hnot) (fun cs b=>hsel i oi cs b hi) (fun cs b=>hsel j oj cs b hoj) hQ hy h1;have hfree':∀k ok,ops[k]?=some ok->k≠i->(listed.setIfInBounds j true).getD k true=false ->
     (∀e∈ok.after,Region.binds md e=true->e.on≠i)->oi.apart ops ok=true:=fun k ok hk hki hun hno=>by
    refine hfree k ok hk hki ?_ hno;by_cases hjk:j=k
    ·subst hjk;exact hjun
    ·rw[getD_set_ne true hjk] at hun;exact hun
   refine wpOp_mono (fun a' w' h3=>⟨fun p hp hd=>h3.2.1 p (List.mem_cons_of_mem _ hp) hd,ih _ (listed.setIfInBounds j true) a' w' hfree' (ready_mono hr (Ne.symm hji)) h3.1 (h3.2.1 (i,S) List.mem_cons_self hdep) (fun p hp=>?_) ?_⟩) h2
   ·rw[List.mem_filter] at hp;exact h3.2.1 p (List.mem_cons_of_mem _ hp.1) (by simpa using hp.2)
   ·rw[Array.setIfInBounds_comm _ _ hji];have:=h3.2.2
    rwa [List.filter_cons_of_pos (by simp[hdep])] at this
def planC(md:Region.Mode)(ops:Array Oper):List (Nat × Option (List Nat))->Array Bool->Bool
 | [],listed=>(Region.ready md ops listed).isEmpty
 | (i,none)::r,listed=>Region.free md ops listed i && (Region.ready md ops listed).contains i && planC md ops r (listed.setIfInBounds i true)
 | (i,some d)::r,listed=>(Region.ready md ops listed == [i]) && d.all (fun k=>depB md ops i k) && planC md ops r (listed.setIfInBounds i true)
def owed(d:List Nat):Obl->World->Prop
 | [],_=>True
 | p::obl,w=>(if d.contains p.1 then True else p.2 w)/\owed d obl w
def left(d:List Nat):Obl->Obl
 | []=>[]
 | p::obl=>if d.contains p.1 then left d obl else p::left d obl
theorem yU{d:List Nat}{w:World}:∀{obl:Obl},owed d obl w->∀p∈obl,d.contains p.1=false->p.2 w
 | [],_,p,hp,_=>by cases hp
 | q::obl,h,p,hp,hd=>by
  rcases List.mem_cons.1 hp with rfl | hp
  ·have:=h.1
   rwa [if_neg (by rw[hd];simp)] at this
  ·exact yU h.2 p hp hd
theorem yX{d:List Nat}:∀{obl:Obl} {p},p∈left d obl ↔ p∈obl/\d.contains p.1=false
 | [],p=>by simp[left]
 | q::obl,p=>by
  unfold left;split
  ·rename_i hq;rw[yX,List.mem_cons];constructor
   ·rintro⟨h1,h2⟩;exact⟨.inr h1,h2⟩
   ·rintro⟨h1 | h1,h2⟩
    ·subst h1;rw[hq] at h2;cases h2
    ·exact⟨h1,h2⟩
  ·rename_i hq;rw[List.mem_cons,yX,List.mem_cons];constructor
   ·rintro(h | h)
    ·subst h;exact⟨.inl rfl,by simpa using hq⟩
    ·exact⟨.inr h.1,h.2⟩
   ·rintro⟨h1 | h1,h2⟩
    ·exact .inl h1
    ·exact .inr ⟨h1,h2⟩
def wpPlanE(P:Program)(ops:Array Oper)(Q:Exit->Act->World->Prop):Obl->List (Nat × Option (List Nat))->Act->World->Prop
 | _,[],a,w=>Q .normal a w
 | obl,(i,none)::r,a,w=>∃o v S,ops[i]?=some o/\YieldsIf P ops S o v a/\S w/\wpPlanE P ops Q ((i,S)::obl) r (a.put o.dst v) w
 | obl,(i,some d)::r,a,w=>∃o,ops[i]?=some o/\wpOp P ops Q i (fun a' w'=>owed d obl w'/\wpPlanE P ops Q (left d obl) r a' w') a w
theorem yV(hs:Region.noSelect ops=true)(hQ:∀c a w,¬Q (.panic c) a w):∀(plan:List (Nat × Option (List Nat))) (fuel:Nat) (obl:Obl) (listed:Array Bool) (a:Act) (w:World),
  plan.length<=fuel->planC md ops plan listed=true->(∀p∈obl,p.2 w)->wpPlanE P ops Q obl plan a w->wpAnyO P md ops Q fuel obl listed a w
 | [],fuel,obl,listed,a,w,_,hp,_,h=>by
  have hr:Region.ready md ops listed=[]:=by simpa [planC] using hp
  cases fuel with
  | zero=>exact⟨hr,h⟩
  | succ _=>exact⟨fun _=>h,by rw[hr];simp⟩
 | (i,none)::r,0,_,_,_,_,hf,_,_,_=>by simp at hf
 | (i,some d)::r,0,_,_,_,_,hf,_,_,_=>by simp at hf
 | (i,none)::r,fuel+1,obl,listed,a,w,hf,hp,hO,h=>by
  obtain⟨o,v,S,ho,hy,hS,hr⟩:=h;simp only[planC,Bool.and_eq_true] at hp;refine xN ho (Region.noSelect_spec hs) (fun c a w hh=>absurd hh (hQ _ _ _)) fuel obl listed a w (Region.free_spec ho hp.1.1) (by simpa using hp.1.2) hy hS hO
   (yV hs hQ r fuel _ _ _ w (by simpa using hf) hp.2 ?_ hr)
  intro p hp'
  rcases List.mem_cons.1 hp' with rfl | hp'
  ·exact hS
  ·exact hO p hp'
 | (i,some d)::r,fuel+1,obl,listed,a,w,hf,hp,hO,h=>by
  obtain⟨o,ho,hw⟩:=h;simp only[planC,Bool.and_eq_true,beq_iff_eq] at hp;have hd:∀k,d.contains k=true->depB md ops i k=true:=fun k hk=>by
   have:=List.all_eq_true.1 hp.1.2 k (by simpa using hk);exact this
  have hnd:∀k,depB md ops i k=false->d.contains k=false:=fun k hk=>by
   cases hc:d.contains k with
   | false=>rfl
   | true=>rw[hd k hc] at hk;cases hk
  refine⟨fun h0=>(by rw[h0] at hp;simp at hp),fun j hj=>?_⟩;rw[hp.1.1,List.mem_singleton] at hj;subst hj;refine wpOp_mono (fun a' w' ⟨he,hr⟩=>⟨fun p hp' hdd=>yU he p hp' (hnd _ hdd),?_⟩) hw;refine jt fuel (left d obl) _ _ a' w' (fun p hp'=>?_) (yV hs hQ r fuel _ _ a' w' (by simpa using hf) hp.2 (fun p hp'=>?_) hr)
  ·rw[List.mem_filter] at hp';exact yX.2 ⟨hp'.1,hnd _ (by simpa using hp'.2)⟩
  ·obtain⟨h1,h2⟩:=yX.1 hp';exact yU he p h1 h2
theorem qX{id:Nat}{a:Act}{w:World}(hm:P.follows .mixedOrders=true)(plan:List (Nat × Option (List Nat)))(hs:Region.noSelect ops=true)
  (hp:planC .any ops plan (Array.replicate ops.size false)=true) (hl:plan.length<=ops.size) (h:wpPlanE P ops (NoPanic Q) [] plan a w.drew):(Code.region id ops true).wp P Q a w :=
 wp_region_noPanic (wp_region_any hm (yY _ _ _ _ _ (yV hs (fun _ _ _ hh=>hh) plan _ _ _ a _ hl hp (by simp) h)))
theorem zf{id:Nat}{a:Act}{w:World}(hm:P.follows .mixedOrders=true)(plan:List (Nat × Option (List Nat)))(hs:Region.noSelect ops=true)
  (hp:planC .any ops plan (Array.replicate ops.size false)=true) (hl:plan.length<=ops.size) (h:∀wq,wq=w.drew->wpPlanE P ops (NoPanic Q) [] plan a wq):(Code.region id ops true).wp P Q a w :=
 qX hm plan hs hp hl (h _ rfl)
theorem zdQ{obl:Obl}{i:Nat}{r:List (Nat × Option (List Nat))}{a:Act}{w:World}{o:Oper}{v:Value}(ho:ops[i]?=some o)(hw:Region.wanted o (yielded ops a.tmps)=true)
  (hy:∀w',(execOp a.eval o).run P w'=.ok (.value v) w') (h:wpPlanE P ops Q ((i,fun _=>True)::obl) r (a.put o.dst v) w):wpPlanE P ops Q obl ((i,none)::r) a w :=
 ⟨o,v,fun _=>True,ho,.inl ⟨hw,fun w' _=>hy w'⟩,trivial,h⟩
theorem yN{obl:Obl}{i:Nat}{r:List (Nat × Option (List Nat))}{a:Act}{w:World}{o:Oper}{v:Value}(S:World->Prop)(ho:ops[i]?=some o)(hw:Region.wanted o (yielded ops a.tmps)=true)
  (hy:∀w',S w'->(execOp a.eval o).run P w'=.ok (.value v) w') (hS:S w) (h:wpPlanE P ops Q ((i,S)::obl) r (a.put o.dst v) w):wpPlanE P ops Q obl ((i,none)::r) a w :=
 ⟨o,v,S,ho,.inl ⟨hw,hy⟩,hS,h⟩
theorem zcp{obl:Obl}{i:Nat}{r:List (Nat × Option (List Nat))}{a:Act}{w:World}{o:Oper}{v:Value}(l:List (Addr × Value))(hc:∀p∈l,w.cell? p.1=some p.2)(ho:ops[i]?=some o)(hw:Region.wanted o (yielded ops a.tmps)=true)
  (hy:∀w',(∀p∈l,w'.cell? p.1=some p.2)->(execOp a.eval o).run P w'=.ok (.value v) w') (h:wpPlanE P ops Q ((i,fun w'=>∀p∈l,w'.cell? p.1=some p.2)::obl) r (a.put o.dst v) w):wpPlanE P ops Q obl ((i,none)::r) a w :=
 ⟨o,v,_,ho,.inl ⟨hw,hy⟩,hc,h⟩
theorem zdR{obl:Obl}{i:Nat}{r:List (Nat × Option (List Nat))}{a:Act}{w:World}{o:Oper}(ho:ops[i]?=some o)(hw:Region.wanted o (yielded ops a.tmps)=false)
  (h:wpPlanE P ops Q ((i,fun _=>True)::obl) r (a.put o.dst undef) w):wpPlanE P ops Q obl ((i,none)::r) a w :=
 ⟨o,undef,fun _=>True,ho,.inr ⟨hw,rfl⟩,trivial,h⟩
theorem zj{obl:Obl}{i:Nat}{r:List (Nat × Option (List Nat))}{a a2:Act}{w:World}{o:Oper}(h:wpPlanE P ops Q ((i,fun _=>True)::obl) r a2 w)(ho:ops[i]?=some o:=by rfl)(hw:Region.wanted o (yielded ops a.tmps)=false:=by rfl)(ha:a.put o.dst undef=a2:=by (try simp only[List.getElem_toArray,List.getElem_cons_succ,List.getElem_cons_zero,Act.put,List.setIfInBounds_toArray,List.set_cons_zero,List.set_cons_succ]); exact rfl):wpPlanE P ops Q obl ((i,none)::r) a w:=by
 subst ha;exact zdR ho hw h
theorem zd {obl : Obl} {i : Nat} {r : List (Nat × Option (List Nat))} {a a2 : Act} {w : World} {o : Oper} {v : Value} (h : wpPlanE P ops Q ((i, fun _ => True) :: obl) r a2 w) (ho : ops[i]? = some o := by rfl) (hw : Region.wanted o (yielded ops a.tmps) = true := by rfl)
 (hy : ∀ w', (execOp a.eval o).run P w' = .ok (.value v) w' := by intro w'; simp only [List.getElem_toArray, List.getElem_cons_succ, List.getElem_cons_zero]; go_simp; first | with_reducible rfl | (simp (disch := omega) only [if_pos, if_neg, dif_pos, Result.andThen_ok]; try with_reducible rfl) | skip) (ha : a.put o.dst v = a2 := by (try simp only [List.getElem_toArray, List.getElem_cons_succ, List.getElem_cons_zero, Act.put, List.setIfInBounds_toArray, List.set_cons_zero, List.set_cons_succ]); exact rfl) : wpPlanE P ops Q obl ((i, none) :: r) a w := by
 subst ha;exact zdQ ho hw hy h
theorem ze {obl : Obl} {i : Nat} {r : List (Nat × Option (List Nat))} {a a2 : Act} {w : World} {o : Oper} {v : Value} (l : List (Addr × Value)) (h : wpPlanE P ops Q ((i, fun w' => ∀ p ∈ l, w'.cell? p.1 = some p.2) :: obl) r a2 w) (hc : ∀ p ∈ l, w.cell? p.1 = some p.2 := by simp; and_intros <;> assumption) (ho : ops[i]? = some o := by rfl) (hw : Region.wanted o (yielded ops a.tmps) = true := by rfl)
 (hy : ∀ w', (∀ p ∈ l, w'.cell? p.1 = some p.2) → (execOp a.eval o).run P w' = .ok (.value v) w' := by intro w' hw'; simp only [List.forall_mem_cons, List.not_mem_nil, false_imp_iff, implies_true, and_true] at hw'; simp only [List.getElem_toArray, List.getElem_cons_succ, List.getElem_cons_zero]; go_simp; first | with_reducible rfl | (simp (disch := omega) only [if_pos, if_neg, dif_pos, Result.andThen_ok]; try with_reducible rfl) | skip) (ha : a.put o.dst v = a2 := by (try simp only [List.getElem_toArray, List.getElem_cons_succ, List.getElem_cons_zero, Act.put, List.setIfInBounds_toArray, List.set_cons_zero, List.set_cons_succ]); exact rfl) : wpPlanE P ops Q obl ((i, none) :: r) a w := by
 subst ha;exact zcp l hc ho hw hy h
theorem zg {obl : Obl} {d : List Nat} {r : List (Nat × Option (List Nat))} {a' a2 : Act} {w' : World} {K : Act → World → Prop} (hK : ∀ a' w', owed d obl w' → wpPlanE P ops Q (left d obl) r a' w' → K a' w') (h : wpPlanE P ops Q (left d obl) r a2 w') (ho : owed d obl w' := by first | (simp <;> (and_intros <;> first | trivial | assumption)) | (simp [owed] <;> (and_intros <;> first | trivial | assumption)) | (simp [owed, left] <;> (and_intros <;> first | trivial | assumption))) (ha : a' = a2 := by (try simp only [List.getElem_toArray, List.getElem_cons_succ, List.getElem_cons_zero, Act.put, List.setIfInBounds_toArray, List.set_cons_zero, List.set_cons_succ]); exact rfl) : K a' w' := by
 subst ha;exact hK _ _ ho h
theorem zh{obl:Obl}{i:Nat}{d:List Nat}{r:List (Nat × Option (List Nat))}{a:Act}{w:World}{o:Oper}(ho:ops[i]?=some o)(hw:Region.wanted o (yielded ops a.tmps)=true)
  (h:∀K:Act->World->Prop,(∀a' w',owed d obl w'->wpPlanE P ops Q (left d obl) r a' w'->K a' w')->o.wp P a w K Q):wpPlanE P ops Q obl ((i,some d)::r) a w:=by
 refine⟨o,ho,?_⟩;unfold wpOp;rw[ho];simp only[hw,if_true];exact .inl (h _ fun a' w' h1 h2=>⟨h1,h2⟩)
theorem zeV(w:World){o:Oper}{a:Act}{K:Act->World->Prop}(s x:Operand)(t:TypeId)
  (ho:o.op=.call { callee:=.builtin .append,args:=#[s,x],argTypes:=#[t,t] })
  (base:Nat) (e:TypeId) (i:TypeInfo) (z:Value) (size bytes:Nat) (ht:P.underlying t=some (.slice e)) (hi:P.info? e=some i) (hz:i.zero=some z)
  (hsize:i.size=size) (hby:i.bytes=bytes) (hzs:z.cells.size=size) (hsz:0<size)
  (v:Value) (n:Nat) (xs:List Value) (hs:a.eval s=v) (hown:w.ownsRow base e size v n xs)
  (ad:Addr) (m c:Nat) (news:List Value) (hx:a.eval x=.slice (some ad) m c) (hl:news.length=m*size) (hnews:∀j u,news[j]?=some u->w.cell? (ad.add j)=some u) (h1:∀u∈news,u.oneCell'=true)
  (h63:n+m<=maxLen) (hbytes:(n+m)*bytes<=140737488355328) (hbase:base<=w.heap.size)
  (h:∀v' w',w'.ownsRow base e size v' (n+m) (xs++news)->w.grownBy w' v.ownBlock->(v'.ownBlock=v.ownBlock\/v'.ownBlock=some w.heap.size)->K (a.put o.dst v') w') :
  o.wp P a w K Q:=by
 obtain⟨v',w',hr,h2,h3,_,h5⟩:=run_append_own_at (P:=P) w base t o.type e i z size bytes ht hi hz hsize hby hzs hsz v n xs hown ad m c news hl hnews h1 h63 hbytes hbase;unfold Oper.wp execOp;simp only[ho,resolve,invoke,builtin,Sem.run_bind,Sem.run_pure,Result.andThen_ok,List.map_toArray,List.map_cons,List.map_nil,hs,hx,hr];exact h v' w' h2 h3 h5
theorem zk{obl:Obl}{a:Act}{w:World}(h:Q .normal a w):wpPlanE P ops (NoPanic Q) obl [] a w:=NoPanic.normal h
end
section
variable {P:Program} {ops:Array Oper} {Q:Exit->Act->World->Prop} {md:Region.Mode}
def planCB(md:Region.Mode)(ops:Array Oper)(b:Nat × List Nat × List (Nat × Option (List Nat)))(listed:Array Bool):Bool :=
 b.2.1.all (fun k=>depB md ops b.1 k) && planC md ops b.2.2 (listed.setIfInBounds b.1 true)
def planCT(md:Region.Mode)(ops:Array Oper)(x y:Nat × List Nat × List (Nat × Option (List Nat))):List Nat->Array Bool->Bool
 | [],listed=>(Region.ready md ops listed == [x.1,y.1]) && planCB md ops x listed && planCB md ops y listed
 | i::r,listed=>Region.free md ops listed i && (Region.ready md ops listed).contains i && planCT md ops x y r (listed.setIfInBounds i true)
def wpPlanF(ops:Array Oper)(P:Program)(R:Obl->Act->World->Prop):Obl->List Nat->Act->World->Prop
 | obl,[],a,w=>R obl a w
 | obl,i::r,a,w=>∃o v S,ops[i]?=some o/\YieldsIf P ops S o v a/\S w/\wpPlanF ops P R ((i,S)::obl) r (a.put o.dst v) w
theorem qD(hs:Region.noSelect ops=true)(hQ:∀c a w,¬Q (.panic c) a w){x:Nat × List Nat × List (Nat × Option (List Nat))}{fuel:Nat}{obl:Obl}{listed:Array Bool}{a:Act}{w:World}
  (hf:x.2.2.length<=fuel) (hp:planCB md ops x listed=true) (_hO:∀p∈obl,p.2 w) (h:wpPlanE P ops Q obl ((x.1,some x.2.1)::x.2.2) a w) :
  wpOp P ops Q x.1 (fun a' w'=>(∀p∈obl,depB md ops x.1 p.1=false->p.2 w')/\wpAnyO P md ops Q fuel (obl.filter fun p=>!depB md ops x.1 p.1) (listed.setIfInBounds x.1 true) a' w') a w:=by
 obtain⟨i,d,r⟩:=x;obtain⟨o,ho,hw⟩:=h;simp only[planCB,Bool.and_eq_true] at hp;have hd:∀k,d.contains k=true->depB md ops i k=true:=fun k hk=>by
  have:=List.all_eq_true.1 hp.1 k (by simpa using hk);exact this
 have hnd:∀k,depB md ops i k=false->d.contains k=false:=fun k hk=>by
  cases hc:d.contains k with
  | false=>rfl
  | true=>rw[hd k hc] at hk;cases hk
 refine wpOp_mono (fun a' w' ⟨he,hr⟩=>⟨fun p hp' hdd=>yU he p hp' (hnd _ hdd),?_⟩) hw;refine jt fuel (left d obl) _ _ a' w' (fun p hp'=>?_) (yV hs hQ r fuel _ _ a' w' hf hp.2 (fun p hp'=>?_) hr)
 ·rw[List.mem_filter] at hp';exact yX.2 ⟨hp'.1,hnd _ (by simpa using hp'.2)⟩
 ·obtain⟨h1,h2⟩:=yX.1 hp';exact yU he p h1 h2
theorem qE(hs:Region.noSelect ops=true)(hQ:∀c a w,¬Q (.panic c) a w)(x y:Nat × List Nat × List (Nat × Option (List Nat))):∀(pre:List Nat) (fuel:Nat) (obl:Obl) (listed:Array Bool) (a:Act) (w:World),
  pre.length+x.2.2.length+1<=fuel->pre.length+y.2.2.length+1<=fuel->planCT md ops x y pre listed=true->(∀p∈obl,p.2 w) ->
  wpPlanF ops P (fun obl a w=>wpPlanE P ops Q obl ((x.1,some x.2.1)::x.2.2) a w/\wpPlanE P ops Q obl ((y.1,some y.2.1)::y.2.2) a w) obl pre a w->wpAnyO P md ops Q fuel obl listed a w
 | [],0,_,_,_,_,hf,_,_,_,_=>by omega
 | [],fuel+1,obl,listed,a,w,hf,hf2,hp,hO,h=>by
  simp only[List.length_nil] at hf hf2;simp only[planCT,Bool.and_eq_true,beq_iff_eq] at hp;refine⟨fun h0=>(by rw[h0] at hp;simp at hp),fun j hj=>?_⟩;rw[hp.1.1] at hj;simp only[List.mem_cons,List.not_mem_nil,or_false] at hj
  rcases hj with rfl | rfl
  ·exact qD hs hQ (by omega) hp.1.2 hO h.1
  ·exact qD hs hQ (by omega) hp.2 hO h.2
 | i::r,0,_,_,_,_,hf,_,_,_,_=>by omega
 | i::r,fuel+1,obl,listed,a,w,hf,hf2,hp,hO,h=>by
  obtain⟨o,v,S,ho,hy,hS,hr⟩:=h;simp only[planCT,Bool.and_eq_true] at hp;refine xN ho (Region.noSelect_spec hs) (fun c a w hh=>absurd hh (hQ _ _ _)) fuel obl listed a w (Region.free_spec ho hp.1.1) (by simpa using hp.1.2) hy hS hO
   (qE hs hQ x y r fuel _ _ _ w (by simp only[List.length_cons] at hf;omega) (by simp only[List.length_cons] at hf2;omega) hp.2 ?_ hr)
  intro p hp'
  rcases List.mem_cons.1 hp' with rfl | hp'
  ·exact hS
  ·exact hO p hp'
theorem jb{id:Nat}{a:Act}{w:World}(hm:P.follows .mixedOrders=true)(pre:List Nat)(x y:Nat × List Nat × List (Nat × Option (List Nat)))(hs:Region.noSelect ops=true)
  (hp:planCT .any ops x y pre (Array.replicate ops.size false)=true) (hl2:pre.length+x.2.2.length+1<=ops.size) (hl3:pre.length+y.2.2.length+1<=ops.size)
  (h:∀wq,wq=w.drew->wpPlanF ops P (fun obl a w=>wpPlanE P ops (NoPanic Q) obl ((x.1,some x.2.1)::x.2.2) a w/\wpPlanE P ops (NoPanic Q) obl ((y.1,some y.2.1)::y.2.2) a w) [] pre a wq):(Code.region id ops true).wp P Q a w :=
 wp_region_noPanic (wp_region_any hm (yY _ _ _ _ _ (qE hs (fun _ _ _ hh=>hh) x y pre _ _ _ a _ hl2 hl3 hp (by simp) (h _ rfl))))
theorem zaw{R:Obl->Act->World->Prop}{obl:Obl}{i:Nat}{r:List Nat}{a:Act}{w:World}{o:Oper}{v:Value}(ho:ops[i]?=some o)(hw:Region.wanted o (yielded ops a.tmps)=true)
  (hy:∀w',(execOp a.eval o).run P w'=.ok (.value v) w') (h:wpPlanF ops P R ((i,fun _=>True)::obl) r (a.put o.dst v) w):wpPlanF ops P R obl (i::r) a w :=
 ⟨o,v,fun _=>True,ho,.inl ⟨hw,fun w' _=>hy w'⟩,trivial,h⟩
theorem zcq{R:Obl->Act->World->Prop}{obl:Obl}{i:Nat}{r:List Nat}{a:Act}{w:World}{o:Oper}{v:Value}(l:List (Addr × Value))(hc:∀p∈l,w.cell? p.1=some p.2)(ho:ops[i]?=some o)(hw:Region.wanted o (yielded ops a.tmps)=true)
  (hy:∀w',(∀p∈l,w'.cell? p.1=some p.2)->(execOp a.eval o).run P w'=.ok (.value v) w') (h:wpPlanF ops P R ((i,fun w'=>∀p∈l,w'.cell? p.1=some p.2)::obl) r (a.put o.dst v) w):wpPlanF ops P R obl (i::r) a w :=
 ⟨o,v,_,ho,.inl ⟨hw,hy⟩,hc,h⟩
theorem ze2{R:Obl->Act->World->Prop}{obl:Obl}{a:Act}{w:World}(h:R obl a w):wpPlanF ops P R obl [] a w:=h
end
end Go.Proofs.YtobdmlejabjmiaaGreatDoor
