/- Made small by a program. -/
import Derived.Test.YtobdmlejabjmiaaGreatDoorZd34
set_option maxRecDepth 20000
set_option maxHeartbeats 8000000
namespace Go.Proofs.YtobdmlejabjmiaaGreatDoor
open Go.RowKit
abbrev storeL(g ph ps pl:Nat)(ht:Nat)(hv:Int)(i t:Nat)(v l:List Int)(d:List UInt8)(V:Option Addr)(vc:Nat)(L:Option Addr)(lc:Nat)(D:Option Addr)(dc:Nat)(E:Option Addr)(en ec:Nat)(dn:Bool):Array Value :=
 #[.pointer (some ⟨g,0,none⟩),.int .u64 (ht:Int),.int .i64 hv,.int .u64 (i:Int),.int .u64 (t:Int),.slice V v.length vc,.slice L l.length lc,.slice D d.length dc,.slice E en ec,.pointer (some ⟨ph,0,none⟩),.pointer (some ⟨ps,0,none⟩),.pointer (some ⟨pl,0,none⟩),.bool dn]
def En.bytes(x:En):List UInt8:=enBytes x.idx x.term x.kind x.delta x.dat
def En.sound(x:En):Prop:=enB x.idx x.term x.kind x.delta x.dat=true
def fitsB(lg:Lg)(es:List En)(i t:Nat):Bool :=
 decide (lg.first=i+1) || (decide (lg.first<=i) && (match es[i - lg.first]? with | some x=>decide (x.term=t) | none=>false))
structure ShotOf(s:Sl)(i t:Nat)(v l:List Int)(d:List UInt8)(i0 t0:Nat)(v0 l0:List Int)(d0:List UInt8):Prop where
 dn:s.down=false
 val:(s.has=false/\s.value.length<=100000/\i=i0/\t=t0/\v=v0/\l=l0/\d=d0)\/(s.has=true/\s.value=shotBytes i t v l d/\shotB i t v l d.length=true)
theorem readW_yes{lg:Lg}{es:List En}(hrec:lg.recs=es.map En.bytes)(hd:lg.down=false){i:Nat}{x:En}(h1:lg.first<=i)(hx:es[i - lg.first]?=some x):readW lg i=(x.bytes,0):=by
 have hlt:=(List.getElem?_eq_some_iff.1 hx).1
 have hn:lg.next=lg.first+es.length:=by unfold Lg.next;rw[hrec,List.length_map]
 unfold readW
 rw[if_neg (by rw[hd];simp),if_neg (by omega),if_neg (by omega),hrec,List.getD_eq_getElem?_getD,List.getElem?_map,hx]
 rfl
theorem readW_no{lg:Lg}{es:List En}(hrec:lg.recs=es.map En.bytes)(hd:lg.down=false){i:Nat}(h:i<lg.first\/es[i - lg.first]?=none):∃k:Int,k≠0/\readW lg i=([],k):=by
 have hn:lg.next=lg.first+es.length:=by unfold Lg.next;rw[hrec,List.length_map]
 by_cases h1:i<lg.first
 ·exact⟨13,by decide,by unfold readW;rw[if_neg (by rw[hd];simp),if_pos h1]⟩
 ·have h2:=h.resolve_left h1
  rw[List.getElem?_eq_none_iff] at h2
  exact⟨8,by decide,by unfold readW;rw[if_neg (by rw[hd];simp),if_neg h1,if_pos (by omega)]⟩
def LoadG(B:Nat)(S F:Nat->Prop)(w:World)(q g ph ps pl:Nat)(ht:Nat)(hv:Int)(i t:Nat)(v l:List Int)(d:List UInt8)(fits:Bool)(es:List En)(lg:Lg)(D:DSt)(e:Ending)(w':World):Prop :=
 ∃(A:Option Addr) (ac:Nat) (Bb:Option Addr) (bc:Nat) (C:Option Addr) (cc:Nat) (E:Option Addr) (ec:Nat) (es':List ERow) (S' F':Nat->Prop),e=.returned (.int .i64 0)/\Blk w' q 72 (storeL g ph ps pl ht hv i t v l d A ac Bb bc C cc E es'.length ec false)/\es'.map Prod.fst=es /\
  EO w' w.heap.size E ec es'/\OV w' w.heap.size 3 A ac (ncells .i64 v)/\OV w' w.heap.size 3 Bb bc (ncells .i64 l)/\OB w' w.heap.size C cc d/\LR B S' F' w' pl g lg D/\(∀b,S' b->S b\/w.heap.size<=b)/\(∀b,F' b->F b\/w.heap.size<=b)/\Mods (fun b=>b=q\/(fits=false/\(S b\/F b))) w w'/\(fits=true->S'=S/\F'=F)
structure LdS(w:World)(q g ph ps pl:Nat)(ht:Nat)(hv:Int)(i t:Nat)(v l:List Int)(d:List UInt8)(ok:Bool)(n5:Nat)(wx:World):Prop where
 qq:Blk wx q 72 (storeL g ph ps pl ht hv 0 0 [] [] [] none 0 none 0 none 0 none 0 0 false)
 lo:w.heap.size<n5
 hi:n5<wx.heap.size
 md:Mods (·=q) w wx
 yes:ok=true->∃(A:Option Addr) (ac:Nat) (Bb:Option Addr) (bc:Nat) (C:Option Addr) (cc:Nat),Blk wx n5 36 (shotC i t v l d A ac Bb bc C cc)/\OV wx w.heap.size 3 A ac (ncells .i64 v)/\OV wx w.heap.size 3 Bb bc (ncells .i64 l)/\OB wx w.heap.size C cc d
section
variable {B g q ph ps pl cv co cv' co' sc rc:Nat} {S F:Nat->Prop} {w w':World} {s s':Sl} {lg:Lg} {D:DSt} {V' O' V2 O2:Option Addr} {Z:List (Sg × Pl)} {Y:List (List UInt8 × Option Addr × Nat)} {SA RA:Option Addr}
theorem blk_set5{w:World}{g:Nat}{T:TypeId}{cs:Array Value}(h:Blk w g T cs)(x0 x1 x2 x3 x4:Value):Blk (w.setCells g 3 [x0,x1,x2,x3,x4]) g T (((((cs.setIfInBounds 3 x0).setIfInBounds 4 x1).setIfInBounds 5 x2).setIfInBounds 6 x3).setIfInBounds 7 x4):=((((h.setCell 3 x0).setCell 4 x1).setCell 5 x2).setCell 6 x3).setCell 7 x4
theorem mods_set5{w:World}(g:Nat)(x0 x1 x2 x3 x4:Value):Mods (·=g) w (w.setCells g 3 [x0,x1,x2,x3,x4]) :=
 (((((Mods.refl (·=g) w).setCell ⟨g,3,none⟩ (.inl rfl) x0).setCell ⟨g,4,none⟩ (.inl rfl) x1).setCell ⟨g,5,none⟩ (.inl rfl) x2).setCell ⟨g,6,none⟩ (.inl rfl) x3).setCell ⟨g,7,none⟩ (.inl rfl) x4
theorem storeLoadG(ht:Nat)(hv:Int)(i t:Nat)(v l:List Int)(d:List UInt8)(i0 t0:Nat)(v0 l0:List Int)(d0:List UInt8)(V:Option Addr)(vc:Nat)(L:Option Addr)(lc:Nat)(Dd:Option Addr)(dc:Nat)(es:List En)
  (hq:Blk w q 72 (storeL g ph ps pl 0 0 0 0 [] [] [] none 0 none 0 none 0 none 0 0 false)) (hh:SR B S w ph g s D V' cv O' co) (hs:SR B S w ps g s' D V2 cv' O2 co') (hl:LX B S F w pl g lg D Z Y SA sc RA rc)
  (h1:HardOf s ht hv) (h2:ShotOf s' i t v l d i0 t0 v0 l0 d0) (hqS:¬S q) (hqF:¬F q) (hB:B<=w.heap.size) (hE:SEnv B w) (hBq:B<=q)
  (hv0:RV w V (ncells .i64 v0)) (hl0:RV w L (ncells .i64 l0)) (hd0:RB w Dd d0) (hVq:0<v0.length->∀b,V.map (·.block)=some b->b≠q) (hLq:0<l0.length->∀b,L.map (·.block)=some b->b≠q) (hDq:0<d0.length->∀b,Dd.map (·.block)=some b->b≠q) (hn:v0.length<=1000000) (hm:l0.length<=1000000) (hdl:d0.length<=1000000) (hi:i<=4611686018427387904)
  (hes:∀x∈es,x.sound) (hrec:lg.recs=es.map En.bytes) (hld:lg.down=false) (hf1:lg.first<=1000000000000) (hel:es.length<=1000) (hera:lg.era<=1000000000000) (hsn:∀s∈lg.segs,s.name.length<=1000) (hsl:lg.segs.length<=1000) (hcnt:D.cnt<=1000) (fits:Bool) (hfit:fitsB lg es i t=fits) (hrs:fits=false->(resetW lg D (i+1)).1=0) :
  Calls Tryz.prog 32 #[.pointer (some ⟨q,0,none⟩),.agg (shotC i0 t0 v0 l0 d0 V vc L lc Dd dc)] w (LoadG B S F w q g ph ps pl ht hv i t v l d fits (if fits=true then es.drop (i+1 - lg.first) else []) (if fits=true then lg else(resetW lg D (i+1)).2.1) (if fits=true then D else(resetW lg D (i+1)).2.2)):=by
 obtain⟨esx,hesx⟩:∃esx,esx=(if fits=true then es.drop (i+1 - lg.first) else []):=⟨_,rfl⟩
 obtain⟨lgx,hlgx⟩:∃lgx,lgx=(if fits=true then lg else(resetW lg D (i+1)).2.1):=⟨_,rfl⟩
 obtain⟨Dx,hDx⟩:∃Dx,Dx=(if fits=true then D else(resetW lg D (i+1)).2.2):=⟨_,rfl⟩
 rw[<-hesx,<-hlgx,<-hDx]
 have HXE:=qh hesx
 have HXL:=qh hlgx
 have HXD:=qh hDx
 clear hesx hlgx hDx
 have hal:Below w.heap.size w (w.alloc (.cells (shotC i0 t0 v0 l0 d0 V vc L lc Dd dc) 36)):=(Below.refl _ _).alloc (Nat.le_refl _) _
 have hqlt:=hq.lt
 have NN:=qh (Blk.new w (shotC i0 t0 v0 l0 d0 V vc L lc Dd dc) 36)
 have Q0:=qh (hq.kept hal)
 have VH:=qh (valueHard (hh.below hal) ht hv h1)
 have HHs:=qh hs
 have HHl:=qh hl
 have H2:=qh h2
 have HAL:=qh hal
 have c9:=Q0.out.cell 9 (v:=.pointer (some ⟨ph,0,none⟩)) rfl
 have HSQ:=qh (And.intro hqS hqF)
 have HVQ:=qh (And.intro hv0 (And.intro hl0 (And.intro hd0 (And.intro hVq (And.intro hLq hDq)))))
 have HEN:=qh hE
 have HQ:=qh hq
 have hnx:lg.next=lg.first+es.length:=by unfold Lg.next;rw[hrec,List.length_map]
 have hnx2:lg.next<9223372036854775808:=by omega
 have hrl:∀r∈lg.recs,r.length<=100000:=fun r hr=>by
  rw[hrec] at hr
  obtain⟨x,hx,rfl⟩:=List.mem_map.1 hr
  have:=enBytes_len (hes x hx)
  unfold En.bytes
  omega
 have HRS:=qh (And.intro hes (And.intro hrec (And.intro hld (And.intro hrl (And.intro hnx hsn)))))
 have HFI:=qh (And.intro hfit hrs)
 clear hq hh hs hl h1 h2 hal hqS hqF hv0 hl0 hd0 hVq hLq hDq hE hes hrec hld hrl hnx hsn hfit hrs
 unfold shotC at *
 go_enter Tryz.func32,Tryz.ntmps32
 go_wp2_with fail
 refine VH.out.mono ?_
 rintro e w1 ⟨ok0,rfl,b1⟩
 have Q1:=Q0.out.kept b1
 have hb1:=belowTrans HAL.out b1
 have TH:=qh (there_blk Q1 1 2 (by simp))
 have Q2:Hid (Blk (w1.setCells q 1 [.int .u64 (ht:Int),.int .i64 hv]) q 72 (storeL g ph ps pl ht hv 0 0 [] [] [] none 0 none 0 none 0 none 0 0 false)):=qh (blk_setCells2 Q1 1 (.int .u64 (ht:Int)) (.int .i64 hv))
 have M2:=qh (((Mods.of_below (S:=(·=q)) hb1).setCell ⟨q,1,none⟩ (.inl rfl) (.int .u64 (ht:Int))).setCell ⟨q,1+1,none⟩ (.inl rfl) (.int .i64 hv))
 have N2:=qh (blk_setCells2_other (NN.out.kept b1) (k:=q) (by omega) 1 (.int .u64 (ht:Int)) (.int .i64 hv))
 obtain⟨w2,hw2⟩:∃w2,w2=w1.setCells q 1 [.int .u64 (ht:Int),.int .i64 hv]:=⟨_,rfl⟩
 rw[show(w1.setCell ⟨q,1,none⟩ (.int .u64 (ht:Int))).setCell ⟨q,1+1,none⟩ (.int .i64 hv)=w1.setCells q 1 [.int .u64 (ht:Int),.int .i64 hv] from rfl] at M2
 rw[<-hw2] at Q2 M2 N2
 have HW2:=qh hw2.symm
 have R2:=qh (HHs.out.keepq M2.out HQ.out HSQ.out.1)
 clear VH b1 Q1 hb1 Q0 c9 hw2 NN HAL
 go_upto_region 2 with(refine wpList_store_mid rfl 25 (.tmp 25) (.tmp 21) rfl q 1 #[.int .u64 (ht:Int),.int .i64 hv] rfl rfl TH.out hard_size (by simp[Value.oneCell']) ?_;simp only[];rw[HW2.out])
 clear HW2 TH
 simp only[Act.put]
 go_cut [5,6] (fun s5 s6 wx=>∃(n5:Nat) (ok:Bool),s5=.pointer (some ⟨n5,0,none⟩)/\s6=.bool ok/\Hid (LdS w q g ph ps pl ht hv i t v l d ok n5 wx/\Blk wx w.heap.size 36 (shotC i0 t0 v0 l0 d0 V vc L lc Dd dc)/\(ok=false->Blk wx n5 36 shot0/\i=i0/\t=t0/\v=v0/\l=l0/\d=d0)))
 case first =>
  have d10:=Q2.out.cell 10 (v:=.pointer (some ⟨ps,0,none⟩)) rfl
  have hsz2:=M2.out.size
  have hnlt:=N2.out.lt
  rcases H2.out with⟨hdn,⟨a1,a2,a3,a4,a5,a6,a7⟩ | ⟨a1,a2,a3⟩⟩
  ·have VS:=qh (valueShot0 R2.out a1 hdn a2 toShotV)
   have HEQ:=qh (And.intro a3 (And.intro a4 (And.intro a5 (And.intro a6 a7))))
   clear a1 a2 a3 a4 a5 a6 a7 hdn H2
   go_wp2_with (go_at_call 77;refine VS.out.mono ?_)
   first | rintro e w3 rfl b3 | rintro e w3 ⟨rfl,b3⟩
   obtain⟨n5,hn5⟩:∃n5,n5=w3.heap.size:=⟨_,rfl⟩
   have hb4:Below w3.heap.size w3 (w3.alloc (.cells shot0 36)):=(Below.refl _ _).alloc (Nat.le_refl _) _
   have B5:=qh (Blk.new w3 shot0 36)
   have M3:=M2.out.below b3
   have hw3:=b3.size
   have N4:=((N2.out.kept b3).kept hb4).setRow_other (k:=w3.heap.size) shot0 (by omega)
   have Q4:=((Q2.out.kept b3).kept hb4).setRow_other (k:=w3.heap.size) shot0 (by omega)
   have M4:=(M3.below hb4).setRow w3.heap.size (.inr (by omega)) shot0
   have X4:=B5.out.setRow shot0
   obtain⟨w4,hw4⟩:∃w4,w4=(w3.alloc (.cells shot0 36)).setRow w3.heap.size shot0:=⟨_,rfl⟩
   rw[<-hw4,<-hn5] at X4
   rw[<-hw4] at N4 Q4 M4
   have HW4:=qh hw4.symm
   have HG:Hid (LdS w q g ph ps pl ht hv i t v l d false n5 w4/\Blk w4 w.heap.size 36 (shotC i0 t0 v0 l0 d0 V vc L lc Dd dc)/\(false=false->Blk w4 n5 36 shot0/\i=i0/\t=t0/\v=v0/\l=l0/\d=d0)):=qh ⟨⟨Q4,by omega,X4.lt,M4,fun e=>by cases e⟩,N4,fun _=>⟨X4,HEQ.out⟩⟩
   have HN5:=qh hn5
   clear VS b3 hb4 M3 N4 Q4 M4 X4 hw4 hn5 HEQ R2 M2 N2 Q2 d10
   unfold shot0 at *
   go_wp2_with (refine wpList_store_row rfl 36 (.tmp 5) (.tmp 32) rfl w3.heap.size #[.int .u64 0,.int .u64 0,.slice none 0 0,.slice none 0 0,.slice none 0 0] rfl rfl _ _ B5.out shot_size rfl (by simp[Value.oneCell']) ?_;rw[HW4.out])
   go_meet
   exact⟨n5,false,by rw[HN5.out],rfl,qh ⟨HG.out.1,HG.out.2.1,fun _=>HG.out.2.2 trivial⟩⟩
  ·have VS:=qh (valueShot1 R2.out a1 hdn i t v l d a2 a3)
   clear a1 a2 a3 hdn H2
   unfold shotC at VS
   go_wp2_with (go_at_call 77;refine VS.out.mono ?_)
   rintro e w3 ⟨A,ac,Bb,bc,C,cc,rfl,o1,o2,o3,b3⟩
   obtain⟨n5,hn5⟩:∃n5,n5=w3.heap.size:=⟨_,rfl⟩
   have hb4:Below w3.heap.size w3 (w3.alloc (.cells shot0 36)):=(Below.refl _ _).alloc (Nat.le_refl _) _
   have B5:=qh (Blk.new w3 shot0 36)
   have M3:=M2.out.below b3
   have hw3:=b3.size
   have N4:=((N2.out.kept b3).kept hb4).setRow_other (k:=w3.heap.size) (shotC i t v l d A ac Bb bc C cc) (by omega)
   have Q4:=((Q2.out.kept b3).kept hb4).setRow_other (k:=w3.heap.size) (shotC i t v l d A ac Bb bc C cc) (by omega)
   have M4:=(M3.below hb4).setRow w3.heap.size (.inr (by omega)) (shotC i t v l d A ac Bb bc C cc)
   have X4:=B5.out.setRow (shotC i t v l d A ac Bb bc C cc)
   have mr:Mods (·=w3.heap.size) w3 ((w3.alloc (.cells shot0 36)).setRow w3.heap.size (shotC i t v l d A ac Bb bc C cc)):=(Mods.of_below (S:=(·=w3.heap.size)) hb4).setRow w3.heap.size (.inl rfl) _
   have p1:=OV.base_le (o1.mods mr (fun k hk e=>by have:=(o1.blk_lt k hk).2;omega)) (by omega:w.heap.size<=w2.heap.size)
   have p2:=OV.base_le (o2.mods mr (fun k hk e=>by have:=(o2.blk_lt k hk).2;omega)) (by omega:w.heap.size<=w2.heap.size)
   have p3:=(o3.mods mr (fun k hk e=>by have:=(o3.blk_in k hk).2;omega)).base_le (by omega:w.heap.size<=w2.heap.size)
   obtain⟨w4,hw4⟩:∃w4,w4=(w3.alloc (.cells shot0 36)).setRow w3.heap.size (shotC i t v l d A ac Bb bc C cc):=⟨_,rfl⟩
   rw[<-hw4,<-hn5] at X4
   rw[<-hw4] at N4 Q4 M4 p1 p2 p3
   have HW4:=qh hw4.symm
   have HG:Hid (LdS w q g ph ps pl ht hv i t v l d true n5 w4/\Blk w4 w.heap.size 36 (shotC i0 t0 v0 l0 d0 V vc L lc Dd dc)/\(true=false->Blk w4 n5 36 shot0/\i=i0/\t=t0/\v=v0/\l=l0/\d=d0)):=qh ⟨⟨Q4,by omega,X4.lt,M4,fun _=>⟨A,ac,Bb,bc,C,cc,X4,p1,p2,p3⟩⟩,N4,fun e=>by cases e⟩
   have HN5:=qh hn5
   clear VS b3 hb4 M3 N4 Q4 M4 X4 hw4 hn5 R2 M2 N2 Q2 d10 o1 o2 o3 p1 p2 p3 mr
   unfold shot0 at *
   go_wp2_with (refine wpList_store_row rfl 36 (.tmp 5) (.tmp 32) rfl w3.heap.size (shotC i t v l d A ac Bb bc C cc) rfl rfl _ _ B5.out shot_size rfl (by simp[Value.oneCell']) ?_;rw[HW4.out])
   go_meet
   exact⟨n5,true,by rw[HN5.out],rfl,qh ⟨HG.out.1,HG.out.2.1,fun e=>by cases e⟩⟩
 case rest =>
  obtain⟨n5,ok,rfl,rfl,HG⟩:=hcut
  obtain⟨w4,hw4⟩:∃w4,w4=wc:=⟨_,rfl⟩
  subst hw4
  clear R2 M2 N2 Q2 H2
  go_upto_if 35 with fail
  go_cut [] (fun wx=>Hid (∃(A:Option Addr) (ac:Nat) (Bb:Option Addr) (bc:Nat) (C:Option Addr) (cc:Nat),Blk wx n5 36 (shotC i t v l d A ac Bb bc C cc)/\OV wx w.heap.size 3 A ac (ncells .i64 v)/\OV wx w.heap.size 3 Bb bc (ncells .i64 l)/\OB wx w.heap.size C cc d/\Blk wx q 72 (storeL g ph ps pl ht hv 0 0 [] [] [] none 0 none 0 none 0 none 0 0 false)/\Mods (·=q) w wx))
  case first =>
   cases ok with
   | true =>
    have HF:Hid (∃(A:Option Addr) (ac:Nat) (Bb:Option Addr) (bc:Nat) (C:Option Addr) (cc:Nat),Blk w4 n5 36 (shotC i t v l d A ac Bb bc C cc)/\OV w4 w.heap.size 3 A ac (ncells .i64 v)/\OV w4 w.heap.size 3 Bb bc (ncells .i64 l)/\OB w4 w.heap.size C cc d/\Blk w4 q 72 (storeL g ph ps pl ht hv 0 0 [] [] [] none 0 none 0 none 0 none 0 0 false)/\Mods (·=q) w w4):=qh (by
     obtain⟨A,ac,Bb,bc,C,cc,x1,x2,x3,x4⟩:=HG.out.1.yes rfl
     exact⟨A,ac,Bb,bc,C,cc,x1,x2,x3,x4,HG.out.1.qq,HG.out.1.md⟩)
    clear HG
    go_wp2_with fail
    go_meet
    exact HF
   | false =>
    obtain⟨hS,hN,hno⟩:=HG.out
    obtain⟨hX,rfl,rfl,rfl,rfl,rfl⟩:=hno rfl
    have hVw:=HVQ.out
    have hsz4:=hS.md.size
    have CL:=qh (stateClone 0 0 i t v l d V vc L lc Dd dc w4 (rv_mods hVw.1 hS.md (fun h0 b hb=>hVw.2.2.2.1 (by rw[ncells_length] at h0;exact h0) b hb)) (rv_mods hVw.2.1 hS.md (fun h0 b hb=>hVw.2.2.2.2.1 (by rw[ncells_length] at h0;exact h0) b hb)) (hVw.2.2.1.mods hS.md (fun h0 b hb=>hVw.2.2.2.2.2 h0 b hb)) hn hm hdl)
    have HN:=qh hN
    have HX:=qh hX
    have HS4:=qh hS
    clear hS hN hno hX hVw HG
    go_wp2_with (refine wpList_load_row rfl 36 (.tmp 3) rfl w.heap.size rfl 36 (shotC i t v l d V vc L lc Dd dc) (0,0) _ HN.out Tryz.underlying36 rfl shot_size ?_)
    refine CL.out.mono ?_
    rintro e w5 ⟨A,ac,Bb,bc,C,cc,rfl,o1,o2,o3,b5⟩
    have hsz5:=b5.size
    have hS:=HS4.out
    have hn5l:=hS.lo
    have hn5h:=hS.hi
    have X5:=qh (HX.out.kept b5)
    have ms:Mods (·=n5) w5 (w5.setRow n5 (shotC i t v l d A ac Bb bc C cc)):=(Mods.refl (·=n5) w5).setRow n5 (.inl rfl) _
    have hqn5:q≠n5:=by omega
    have HF:Hid (∃(A1:Option Addr) (ac1:Nat) (Bb1:Option Addr) (bc1:Nat) (C1:Option Addr) (cc1:Nat),Blk (w5.setRow n5 (shotC i t v l d A ac Bb bc C cc)) n5 36 (shotC i t v l d A1 ac1 Bb1 bc1 C1 cc1)/\OV (w5.setRow n5 (shotC i t v l d A ac Bb bc C cc)) w.heap.size 3 A1 ac1 (ncells .i64 v)/\OV (w5.setRow n5 (shotC i t v l d A ac Bb bc C cc)) w.heap.size 3 Bb1 bc1 (ncells .i64 l)/\OB (w5.setRow n5 (shotC i t v l d A ac Bb bc C cc)) w.heap.size C1 cc1 d/\Blk (w5.setRow n5 (shotC i t v l d A ac Bb bc C cc)) q 72 (storeL g ph ps pl ht hv 0 0 [] [] [] none 0 none 0 none 0 none 0 0 false)/\Mods (·=q) w (w5.setRow n5 (shotC i t v l d A ac Bb bc C cc))):=qh
     ⟨A,ac,Bb,bc,C,cc,X5.out.setRow _,OV.base_le (o1.mods ms (fun k hk e=>by have:=(o1.blk_lt k hk).1;omega)) hsz4,OV.base_le (o2.mods ms (fun k hk e=>by have:=(o2.blk_lt k hk).1;omega)) hsz4,(o3.mods ms (fun k hk e=>by have:=(o3.blk_in k hk).1;omega)).base_le hsz4,(hS.qq.kept b5).setRow_other _ hqn5,(hS.md.below b5).trans ms (fun k e=>.inr (by omega))⟩
    clear CL o1 o2 o3 b5 HN HX HS4 hS ms
    have hfd:=field_shot (.int .u64 0) (.int .i64 0) (.int .u64 (i:Int)) (.int .u64 (t:Int)) (.slice A v.length ac) (.slice Bb l.length bc) (.slice C d.length cc) (.slice none 0 0) w5
    unfold stateC
    unfold shot0 at *
    go_wp2_with (refine wpList_store_row rfl 36 (.tmp 5) (.tmp 39) rfl n5 (shotC i t v l d A ac Bb bc C cc) rfl rfl _ _ X5.out shot_size rfl (by simp[Value.oneCell']) ?_)
    go_meet
    exact HF
  case rest =>
   obtain⟨w6,hw6⟩:∃w6,w6=wc:=⟨_,rfl⟩
   subst hw6
   obtain⟨A,ac,Bb,bc,C,cc,X6,P1,P2,P3,Q6,M6⟩:=hcut.out
   have hn5l:=HG.out.1.lo
   have hqn5:n5≠q:=by omega
   have TH7:=qh (there_blk Q6 3 5 (by simp))
   have Q7:Blk (w6.setCells q 3 [.int .u64 (i:Int),.int .u64 (t:Int),.slice A v.length ac,.slice Bb l.length bc,.slice C d.length cc]) q 72 (storeL g ph ps pl ht hv i t v l d A ac Bb bc C cc none 0 0 false):=blk_set5 Q6 _ _ _ _ _
   have m7:Mods (·=q) w6 (w6.setCells q 3 [.int .u64 (i:Int),.int .u64 (t:Int),.slice A v.length ac,.slice Bb l.length bc,.slice C d.length cc]):=mods_set5 q _ _ _ _ _
   have M7:=M6.then m7
   have X7:=X6.mods m7 hqn5
   have P1':=P1.mods m7 (fun k hk e=>by have:=(P1.blk_lt k hk).1;omega)
   have P2':=P2.mods m7 (fun k hk e=>by have:=(P2.blk_lt k hk).1;omega)
   have P3':=P3.mods m7 (fun k hk e=>by have:=(P3.blk_in k hk).1;omega)
   obtain⟨w7,hw7⟩:∃w7,w7=w6.setCells q 3 [.int .u64 (i:Int),.int .u64 (t:Int),.slice A v.length ac,.slice Bb l.length bc,.slice C d.length cc]:=⟨_,rfl⟩
   rw[<-hw7] at Q7 M7 X7 P1' P2' P3'
   have HW7:=qh hw7.symm
   have e0:=X7.cell 0 (v:=.int .u64 (i:Int)) rfl
   have e1:=X7.cell 1 (v:=.int .u64 (t:Int)) rfl
   have e11:=Q7.cell 11 (v:=.pointer (some ⟨pl,0,none⟩)) rfl
   have L7:=HHl.out.mods M7 (fun b hb e=>HSQ.out.2 (by rw[<-e];exact hb)) (HHl.out.lb.di.mods M7 (fun b _ hs e=>HSQ.out.1 (by rw[<-e];exact hs))) (fun b hb=>.inl hb) hB
   have FI:=qh (walFirst L7.blk lg.first rfl)
   have X6h:=qh X6
   have X7h:=qh X7
   have H7:=qh (And.intro Q7 (And.intro M7 (And.intro P1' (And.intro P2' P3'))))
   have LH:=qh L7
   obtain⟨n1,hn1⟩:∃n1,n1=i+1:=⟨_,rfl⟩
   have hwi:IntKind.u64.wrap ((i:Int)+1)=(n1:Int):=by
    rw[show IntKind.u64.wrap ((i:Int)+1)=((i:Int)+1) % 18446744073709551616 from rfl]
    omega
   have HN1:=qh hn1
   have hn1b:n1<=4611686018427387905:=by omega
   clear X6 P1 P2 P3 Q6 M6 Q7 m7 M7 X7 P1' P2' P3' hw7 L7 HG hcut hn1
   go_upto_region 7 with(first
    | (refine wpList_load_row rfl 36 (.tmp 5) rfl n5 rfl 36 (shotC i t v l d A ac Bb bc C cc) (0,0) _ X6h.out Tryz.underlying36 rfl shot_size ?_)
    | (refine wpList_store_mid rfl 36 (.tmp 44) (.tmp 41) rfl q 3 #[.int .u64 (i:Int),.int .u64 (t:Int),.slice A v.length ac,.slice Bb l.length bc,.slice C d.length cc] rfl rfl TH7.out shot_size (by simp[Value.oneCell']) ?_;simp only[];rw[HW7.out]))
   go_cut [54] (fun s54 wx=>s54=.bool (decide (lg.first=n1))/\w7=wx)
   case first =>
    go_wp2_with (go_at_call 79;refine FI.out.mono ?_;first | rintro e w8 ⟨rfl,rfl⟩ | rintro e w8 rfl rfl)
    go_meet
    refine⟨?_,rfl⟩
    by_cases h0:lg.first=n1
    ·rw[h0];simp
    ·rw[decide_eq_false h0]
     congr 1
     simpa using fun e:(lg.first:Int)=(n1:Int)=>h0 (by omega)
   case rest =>
    obtain⟨rfl,rfl⟩:=hcut
    clear FI HW7 TH7 X6h
    go_upto_if 54 with fail
    go_cut [8] (fun s8 wx=>s8=.bool fits/\Hid (Below w7.heap.size w7 wx))
    case first =>
     by_cases h0:lg.first=n1
     ·have HF:Hid (fits=true):=qh (by rw[<-HFI.out.1,fitsB,decide_eq_true (by rw[h0,HN1.out]),Bool.true_or])
      rw[decide_eq_true h0]
      go_wp2_with fail
      go_meet
      exact⟨by rw[HF.out],qh (Below.refl _ _)⟩
     ·have hFB:fits=(decide (lg.first<=i) && (match es[i - lg.first]? with | some x=>decide (x.term=t) | none=>false)):=by
       rw[<-HFI.out.1,fitsB,decide_eq_false (by rw[HN1.out] at h0;exact h0),Bool.false_or]
      obtain⟨hes,hrec,hld,hrl,hnx,hsn⟩:=HRS.out
      rw[decide_eq_false h0]
      cases hx:es[i - lg.first]? with
      | none =>
       obtain⟨k,hk0,hk⟩:=readW_no (i:=i) hrec hld (.inr hx)
       have EN:=qh (entryNo H7.out.1 rfl LH.out i (by omega) hnx2 hrl k hk hk0)
       have HF:Hid (fits=false):=qh (by rw[hFB,hx];simp)
       have hkb:(k == 0)=false:=by simpa using hk0
       clear h0 hFB hes hrec hld hrl hnx hsn hk hk0 hx
       unfold entry0 at EN
       go_wp2_with (go_at_call 80;refine EN.out.mono ?_)
       first | rintro e w9 ⟨rfl,b9⟩ | rintro e w9 rfl b9
       have hb10:Below w9.heap.size w9 (w9.alloc (.cells entry0 44)):=(Below.refl _ _).alloc (Nat.le_refl _) _
       have BN9:=qh (Blk.new w9 entry0 44)
       have HB10:=qh (below_setRow (g:=w9.heap.size) (b9.trans (hb10.mono b9.size)) b9.size entry0)
       clear b9 hb10 EN
       unfold entry0 at *
       go_wp2_with (refine wpList_store_row rfl 44 (.tmp 9) (.tmp 59) rfl w9.heap.size #[.int .u64 0,.int .u64 0,.int .i64 0,.int .i64 0,.slice none 0 0] rfl rfl _ _ BN9.out entry_size rfl (by simp[Value.oneCell']) ?_)
       go_meet
       exact⟨by rw[HF.out],HB10⟩
      | some x =>
       by_cases hle:lg.first<=i
       ·have hr:=readW_yes hrec hld hle hx
        have hxs:=hes x (List.mem_of_getElem? hx)
        obtain⟨ix,tx,kx,dx,bx⟩:=x
        have EN:=qh (entryYes H7.out.1 rfl LH.out i (by omega) hnx2 hrl ix tx kx dx bx hxs hr)
        have HF:Hid (fits=decide (tx=t)):=qh (by rw[hFB,hx];simp[hle])
        clear h0 hFB hes hrec hld hrl hnx hsn hr hxs hx hle
        unfold enC at EN
        go_wp2_with (go_at_call 80;refine EN.out.mono ?_)
        rintro e w9 ⟨X,xc,rfl,_,b9⟩
        have hb10:Below w9.heap.size w9 (w9.alloc (.cells entry0 44)):=(Below.refl _ _).alloc (Nat.le_refl _) _
        have BN9:=qh (Blk.new w9 entry0 44)
        have hB10:=below_setRow (g:=w9.heap.size) (b9.trans (hb10.mono b9.size)) b9.size (enC ix tx kx dx bx X xc)
        have hY:=BN9.out.setRow (enC ix tx kx dx bx X xc)
        obtain⟨w10,hw10⟩:∃w10,w10=(w9.alloc (.cells entry0 44)).setRow w9.heap.size (enC ix tx kx dx bx X xc):=⟨_,rfl⟩
        rw[<-hw10] at hB10 hY
        have HW10:=qh hw10.symm
        have f1:=hY.cell 1 (v:=.int .u64 (tx:Int)) rfl
        have f5:=(X7h.out.kept hB10).cell 1 (v:=.int .u64 (t:Int)) rfl
        have HB10:=qh hB10
        clear b9 hb10 EN hB10 hY hw10
        unfold entry0 enC at *
        go_wp2_with (refine wpList_store_row rfl 44 (.tmp 9) (.tmp 59) rfl w9.heap.size #[.int .u64 (ix:Int),.int .u64 (tx:Int),.int .i64 kx,.int .i64 dx,.slice X bx.length xc] rfl rfl _ _ BN9.out entry_size rfl (by simp[Value.oneCell']) ?_;rw[HW10.out])
        go_meet
        refine⟨?_,HB10⟩
        rw[HF.out]
        congr 1
        by_cases h3:tx=t
        ·rw[h3];simp
        ·rw[decide_eq_false h3]
         simpa using fun e:(tx:Int)=(t:Int)=>h3 (by omega)
       ·obtain⟨k,hk0,hk⟩:=readW_no (i:=i) hrec hld (.inl (by omega))
        have EN:=qh (entryNo H7.out.1 rfl LH.out i (by omega) hnx2 hrl k hk hk0)
        have HF:Hid (fits=false):=qh (by rw[hFB,decide_eq_false hle,Bool.false_and])
        have hkb:(k == 0)=false:=by simpa using hk0
        clear h0 hFB hes hrec hld hrl hnx hsn hk hk0 hx hle
        unfold entry0 at EN
        go_wp2_with (go_at_call 80;refine EN.out.mono ?_)
        first | rintro e w9 ⟨rfl,b9⟩ | rintro e w9 rfl b9
        have hb10:Below w9.heap.size w9 (w9.alloc (.cells entry0 44)):=(Below.refl _ _).alloc (Nat.le_refl _) _
        have BN9:=qh (Blk.new w9 entry0 44)
        have HB10:=qh (below_setRow (g:=w9.heap.size) (b9.trans (hb10.mono b9.size)) b9.size entry0)
        clear b9 hb10 EN
        unfold entry0 at *
        go_wp2_with (refine wpList_store_row rfl 44 (.tmp 9) (.tmp 59) rfl w9.heap.size #[.int .u64 0,.int .u64 0,.int .i64 0,.int .i64 0,.slice none 0 0] rfl rfl _ _ BN9.out entry_size rfl (by simp[Value.oneCell']) ?_)
        go_meet
        exact⟨by rw[HF.out],HB10⟩
    case rest =>
     obtain⟨rfl,HB8⟩:=hcut
     obtain⟨w8,hw8⟩:∃w8,w8=wc:=⟨_,rfl⟩
     subst hw8
     have Q8:=H7.out.1.kept HB8.out
     have M8:=H7.out.2.1.below HB8.out
     have P1:=H7.out.2.2.1.below HB8.out
     have P2:=H7.out.2.2.2.1.below HB8.out
     have P3:=H7.out.2.2.2.2.below HB8.out
     have L8:=LH.out.below HB8.out
     have hw8s:=M8.size
     have e11:=Q8.cell 11 (v:=.pointer (some ⟨pl,0,none⟩)) rfl
     have H8:=qh (And.intro Q8 (And.intro M8 (And.intro P1 (And.intro P2 (And.intro P3 L8)))))
     clear e0 e1 X7h H7 LH HB8 P1 P2 P3
     cases fits with
     | false =>
      have hrs:=HFI.out.2 rfl
      have hE8:=HEN.out.below (Mods.old (Below.refl B w) M8 hB (fun k _ e=>by subst e;exact hBq))
      have RS:=walReset L8 (Nat.le_trans hB hw8s) hE8 n1 (by omega) hera HRS.out.2.2.2.2.2 (by omega) (by omega)
      rw[HN1.out,hrs] at RS
      rw[show((i+1:Nat):Int)=(n1:Int) from by rw[HN1.out]] at RS
      have RSH:=qh RS
      clear RS hE8 Q8 M8 L8 hrs
      go_wp2_with (go_at_call 50;refine RSH.out.mono ?_)
      rintro e w11 ⟨rfl,S',F',hLR,hs',hf',m11⟩
      have HF:=qh (And.intro hLR (And.intro hs' (And.intro hf' m11)))
      clear hLR hs' hf' m11 RSH e11
      go_wp2_with fail
      go_ret
      obtain⟨hLR,hs',hf',m11⟩:=HF.out
      obtain⟨Q8,M8,P1,P2,P3,L8⟩:=H8.out
      have hno:∀k,w.heap.size<=k->¬(S k\/F k):=fun k hk e=>by
       rcases e with e | e
       ·have:=HHl.out.lb.di.bnd k e;omega
       ·have:=(HHl.out.lb.bnd k e).2;omega
      have hqn:¬(S q\/F q):=fun e=>e.elim HSQ.out.1 HSQ.out.2
      exact⟨A,ac,Bb,bc,C,cc,none,0,[],S',F',rfl,Q8.mods m11 hqn,by rw[HXE.out,if_neg (by simp)];rfl,EO.nil _ _,P1.mods m11 (fun k hk=>hno k (P1.blk_lt k hk).1),P2.mods m11 (fun k hk=>hno k (P2.blk_lt k hk).1),P3.mods m11 (fun k hk=>hno k (P3.blk_in k hk).1),
       by rw[HXL.out,HXD.out,if_neg (by simp),if_neg (by simp)];exact hLR,fun b hb=>(hs' b hb).imp id (fun h=>by omega),fun b hb=>(hf' b hb).imp id (fun h=>by omega),(M8.mono (fun b _ e=>.inl e)).trans m11 (fun b hb=>.inl (.inr ⟨rfl,hb⟩)),fun h=>by cases h⟩
     | true =>
      have hj:lg.first<=n1/\n1 - lg.first<=es.length:=by
       have h0:=HFI.out.1
       rw[HN1.out]
       unfold fitsB at h0
       rw[Bool.or_eq_true,Bool.and_eq_true,decide_eq_true_eq,decide_eq_true_eq] at h0
       rcases h0 with h0 | ⟨h0,h3⟩
       ·omega
       ·cases hx:es[i - lg.first]? with
        | none=>rw[hx] at h3;cases h3
        | some x =>
         have:=(List.getElem?_eq_some_iff.1 hx).1
         omega
      obtain⟨j0,hj0⟩:∃j0,j0=n1 - lg.first:=⟨_,rfl⟩
      obtain⟨hj1,hj2⟩:=hj
      rw[<-hj0] at hj2
      have hnj:n1=lg.first+j0:=by omega
      have HJ0:Hid (es.drop (i+1 - lg.first)=es.drop j0):=qh (by rw[hj0,HN1.out])
      obtain⟨N,hN⟩:∃N,N=lg.first+es.length:=⟨_,rfl⟩
      have HNX:Hid (lg.next=N):=qh (by rw[HRS.out.2.2.2.2.1,hN])
      have hNb:N<=1000000001000:=by omega
      have H0:Hid (Blk w8 q 72 (storeL g ph ps pl ht hv i t v l d A ac Bb bc C cc none ([]:List ERow).length 0 false)/\EO w8 w8.heap.size none 0 []/\Mods (fun b=>b=q\/w8.heap.size<=b) w8 w8):=qh ⟨Q8,EO.nil _ _,Mods.refl _ _⟩
      have hqw:q<w8.heap.size:=Q8.lt
      have HNJ:=qh (And.intro hnj hN)
      clear hnj hN
      clear Q8 M8 L8 e11 HFI hj0 hwi
      go_wp2_with fail
      go_loopw [11] (fun s11 wr=>∃(k:Nat) (E:Option Addr) (ec:Nat) (es':List ERow),j0+k<=es.length/\s11=.int .u64 ((n1+k:Nat):Int)/\Hid (es'.map Prod.fst=(es.drop j0).take k)/\Hid (Blk wr q 72 (storeL g ph ps pl ht hv i t v l d A ac Bb bc C cc E es'.length ec false)/\EO wr w8.heap.size E ec es'/\Mods (fun b=>b=q\/w8.heap.size<=b) w8 wr)) (fun s11 _=>N - (intOf s11).toNat)
      case atStart=>exact⟨0,none,0,[],by omega,by have:=HN1.out;first | rfl | (congr 1;omega),qh (by simp),H0⟩
      case round =>
       clear H0
       obtain⟨k,E,ec,es',hk,rfl,HT,HR⟩:=hrel
       obtain⟨w20,hw20⟩:∃w20,w20=wr:=⟨_,rfl⟩
       subst hw20
       have hL:=H8.out.2.2.2.2.2.mods HR.out.2.2 (fun b hb e=>e.elim (fun e=>HSQ.out.2 (by rw[<-e];exact hb)) (fun e=>by have:=(H8.out.2.2.2.2.2.lb.bnd b hb).2;omega)) (H8.out.2.2.2.2.2.lb.di.mods HR.out.2.2 (fun b _ hs e=>e.elim (fun e=>HSQ.out.1 (by rw[<-e];exact hs)) (fun e=>by have:=H8.out.2.2.2.2.2.lb.di.bnd b hs;omega))) (fun b hb=>.inl hb) (Nat.le_trans hB hw8s)
       have NX:=walNext hL.blk lg.first lg.recs.length rc RA rfl rfl (by have:=HNX.out;unfold Lg.next at this;omega)
       rw[show((lg.first+lg.recs.length:Nat):Int)=(N:Int) from by rw[<-HNX.out];rfl] at NX
       have NXH:=qh NX
       have e11:=HR.out.1.cell 11 (v:=.pointer (some ⟨pl,0,none⟩)) rfl
       have HL:=qh hL
       clear NX hL
       obtain⟨n20,hn20e⟩:∃n20,n20=n1+k:=⟨_,rfl⟩
       rw[<-hn20e]
       obtain⟨hnj,hN⟩:=HNJ.out
       by_cases hlt:n20<N
       ·have hki:(n20:Int)<(N:Int):=by omega
        have hgx:j0+k<es.length:=by omega
        obtain⟨hes,hrec,hld,hrl,hnx,hsn⟩:=HRS.out
        obtain⟨x,hx⟩:∃x,es[j0+k]?=some x:=⟨_,List.getElem?_eq_getElem hgx⟩
        have hr:=readW_yes (i:=n1+k) hrec hld (by omega) (by rw[show n1+k - lg.first=j0+k from by omega];exact hx)
        have hxs:=hes x (List.mem_of_getElem? hx)
        have hxd:(es.drop j0).take (k+1)=(es.drop j0).take k++[x]:=by
         rw[List.take_add_one,List.getElem?_drop,hx];rfl
        obtain⟨ix,tx,kx,dx,bx⟩:=x
        have hn20:n1+k<18446744073709551616:=by omega
        have EN:Hid (∀v,Below w20.heap.size w20 v->Calls Tryz.prog 80 #[.pointer (some ⟨q,0,none⟩),.int .u64 ((n1+k:Nat):Int)] v fun e w'=>∃X xc,e=.returned (.tuple #[.agg (enC ix tx kx dx bx X xc),.int .i64 0])/\OB w' v.heap.size X xc bx/\Below v.heap.size v w'):=qh (fun v hv=>entryYes (HR.out.1.kept hv) rfl (HL.out.below hv) (n1+k) hn20 hnx2 hrl ix tx kx dx bx hxs hr)
        have HTX:=qh hxd
        have hwk:IntKind.u64.wrap (((n1+k:Nat):Int)+1)=((n1+(k+1):Nat):Int):=by
         rw[show IntKind.u64.wrap (((n1+k:Nat):Int)+1)=(((n1+k:Nat):Int)+1) % 18446744073709551616 from rfl]
         omega
        rw[<-hn20e] at EN hwk
        have HN20:=qh hn20e
        have hesl:es'.length<=1000:=by
         have:=congrArg List.length HT.out
         rw[List.length_map,List.length_take,List.length_drop] at this
         omega
        clear hes hrec hld hrl hnx hsn hx hr hxs hxd hlt hn20 HL hnj hN
        clear hn20e
        unfold enC at EN
        go_wp2_with (go_at_call 81;refine NXH.out.mono ?_)
        first | rintro e w21 rfl n2 rfl | rintro e w21 ⟨rfl,n2,rfl⟩
        have hb21:Below w20.heap.size w20 (w20.drewN n2):=belowDrewN (Below.refl _ _) n2
        have EN2:=qh (EN.out _ hb21)
        have HB21:=qh hb21
        clear EN NXH hb21 e11
        go_wp2_with (go_at_call 80;refine EN2.out.mono ?_)
        rintro e w9 ⟨X,xc,rfl,ox,b9⟩
        have hb9:=HB21.out.trans (b9.mono HB21.out.size)
        have hb10:Below w9.heap.size w9 (w9.alloc (.cells entry0 TEn)):=(Below.refl _ _).alloc (Nat.le_refl _) _
        have BN9:=qh (Blk.new w9 entry0 TEn)
        have hB10:=below_setRow (g:=w9.heap.size) (hb9.trans (hb10.mono hb9.size)) hb9.size (enC ix tx kx dx bx X xc)
        have hY:=BN9.out.setRow (enC ix tx kx dx bx X xc)
        have mr:Mods (·=w9.heap.size) w9 ((w9.alloc (.cells entry0 TEn)).setRow w9.heap.size (enC ix tx kx dx bx X xc)):=(Mods.of_below (S:=(·=w9.heap.size)) hb10).setRow w9.heap.size (.inl rfl) _
        have hw20s:=HR.out.2.2.size
        have hox:=(ox.mods mr (fun k hk e=>by have:=(ox.blk_in k hk).2;omega)).base_le (Nat.le_trans hw20s HB21.out.size)
        have hw9s:=hb9.size
        obtain⟨b12,hb12⟩:∃b12,b12=w9.heap.size:=⟨_,rfl⟩
        obtain⟨w10,hw10⟩:∃w10,w10=(w9.alloc (.cells entry0 TEn)).setRow w9.heap.size (enC ix tx kx dx bx X xc):=⟨_,rfl⟩
        rw[<-hw10] at hB10 hY hox
        rw[<-hb12] at hY
        have HW10:=qh hw10.symm
        have HB12:=qh hb12.symm
        have hq10:=HR.out.1.kept hB10
        have ho10:=HR.out.2.1.below hB10
        have hm10:=HR.out.2.2.below hB10
        have h8b12:w8.heap.size<=b12:=by omega
        have HY:=qh hY
        have G10:=qh (And.intro hq10 (And.intro ho10 (And.intro hm10 hox)))
        clear EN2 ox b9 hb9 hb10 hB10 hY mr hox hw10 hb12 hq10 ho10 hm10 HR HB21 hw9s
        obtain⟨i0',hi0,hz0,hz1,hz2⟩:=info_parts en_info
        unfold entry0 enC at *
        go_upto_region 20 with(refine wpList_store_row rfl TEn (.tmp 12) (.tmp 92) rfl w9.heap.size #[.int .u64 (ix:Int),.int .u64 (tx:Int),.int .i64 kx,.int .i64 dx,.slice X bx.length xc] rfl rfl _ _ BN9.out entry_size rfl (by simp[Value.oneCell']) ?_;rw[HW10.out,HB12.out])
        clear BN9 HW10 HB12
        refine wp_region_planE_gen (by kernel_rfl) [(0,none),(1,none),(2,none),(3,none),(4,none),(5,none),(6,none),(7,some [6]),(8,some [5]),(9,none),(10,none),(11,none),(12,some [0,1,2,3,4,5,6,11])] (by kernel_rfl) (by kernel_rfl) (by decide) ?_
        intro wq hwq
        have hbq:Below w10.heap.size w10 wq:=by rw[hwq];exact(Below.refl _ _).drew
        have hqq:=G10.out.1.kept hbq
        have hyq:=HY.out.kept hbq
        have GQ:=qh (And.intro hqq (And.intro (G10.out.2.1.below hbq) (And.intro (G10.out.2.2.1.below hbq) (And.intro (G10.out.2.2.2.below hbq) hyq))))
        have y0:=hyq.cell 0 rfl
        have y1:=hyq.cell 1 rfl
        have y2:=hyq.cell 2 rfl
        have y3:=hyq.cell 3 rfl
        have y4:=hyq.cell 4 rfl
        have c8:=hqq.cell 8 (v:=.slice E es'.length ec) rfl
        clear hwq hbq hqq hyq G10 HY
        iterate 5 (refine planE_pureA ?_)
        refine planE_cellsA [(⟨q,8,none⟩,.slice E es'.length ec)] ?_
        refine planE_cellsA [(⟨b12,0,none⟩,.int .u64 (ix:Int)),(⟨b12,1,none⟩,.int .u64 (tx:Int)),(⟨b12,2,none⟩,.int .i64 kx),(⟨b12,3,none⟩,.int .i64 dx),(⟨b12,4,none⟩,.slice X bx.length xc)] ?_
        refine planE_eff rfl (by rfl) (fun K hK=>?_)
        go_simp
        have hb2:Below wq.heap.size wq (wq.alloc (.cells #[.int .u64 (ix:Int),.int .u64 (tx:Int),.int .i64 kx,.int .i64 dx,.slice X bx.length xc] TEn)):=(Below.refl _ _).alloc (Nat.le_refl _) _
        have hL6:=Blk.new wq #[.int .u64 (ix:Int),.int .u64 (tx:Int),.int .i64 kx,.int .i64 dx,.slice X bx.length xc] TEn
        obtain⟨a1,a2,a3,a4,a5⟩:=GQ.out
        have a1':=a1.kept hb2
        have a5':=a5.kept hb2
        have G11:=qh (And.intro a1' (And.intro (a2.below hb2) (And.intro (a3.below hb2) (a4.below hb2))))
        have HY11:=qh a5'
        obtain⟨lb,hlb⟩:∃lb,lb=wq.heap.size:=⟨_,rfl⟩
        rw[<-hlb] at hL6 ⊢
        generalize wq.alloc (.cells #[.int .u64 (ix:Int),.int .u64 (tx:Int),.int .i64 kx,.int .i64 dx,.slice X bx.length xc] TEn)=w11 at *
        clear y0 y1 y2 y3 y4 c8 hb2 hlb a1 a2 a3 a4 a5 GQ
        have y0:=a5'.cell 0 rfl
        have y1:=a5'.cell 1 rfl
        have y2:=a5'.cell 2 rfl
        have y3:=a5'.cell 3 rfl
        have y4:=a5'.cell 4 rfl
        have c8:=a1'.cell 8 (v:=.slice E es'.length ec) rfl
        have HL6:=qh hL6
        clear a1' a5' hL6
        refine planE_ownA hK ?_
        clear hK K
        refine planE_eff rfl (by rfl) (fun K hK=>?_)
        have hbs:w8.heap.size<=w11.heap.size:=G11.out.2.2.1.size
        refine op_appendS w11 (.tmp 107) (.tmp 109) 22 TEn (by rfl) Tryz.underlying22 hi0 hz0 hz1 hz2 rfl (by decide) w8.heap.size E (some ⟨lb,0,none⟩) ec 1 (es'.map er) [[.int .u64 (ix:Int),.int .u64 (tx:Int),.int .i64 kx,.int .i64 dx,.slice X bx.length xc]] (by rw[List.length_map];rfl) (by rfl) G11.out.2.1.row (RS.lit HL6.out) (by simp) (by simp[Value.oneCell']) (by simp;omega) (by simp;omega) hbs ?_
        intro ys E' ec' w12 hys hy1 hy2 hrow hg12 hE'
        have hyl:ys.length=(es'++[((⟨ix,tx,kx,dx,bx⟩:En),X,xc)]).length:=by simpa using Nat.le_antisymm hy1 hy2
        have hys':ys=(es'++[((⟨ix,tx,kx,dx,bx⟩:En),X,xc)]).map er:=by rw[hys.out,List.map_append];rfl
        rw[hys'] at hrow
        have hk12:=G11.out.1.grown hg12 (G11.out.2.1.row.ne_var G11.out.1 (by decide))
        have hO12:=EO.snoc (x:=((⟨ix,tx,kx,dx,bx⟩:En),X,xc)) G11.out.2.1 G11.out.2.2.2 hg12 hrow (Nat.le_refl _)
        have hM12:=G11.out.2.2.1.then (Mods.of_grown (S:=fun b=>b=q\/w8.heap.size<=b) hg12 (fun b e=>.inr (G11.out.2.1.row.blk_lt b e).1))
        have G12:=qh (And.intro hk12 (And.intro hO12 hM12))
        have HYL:=qh hyl
        clear y0 y1 y2 y3 y4 c8 hys hy1 hy2 hrow hg12 hE' hyl hys' hO12 hM12 G11 HY11 HL6 hbs
        have c8:=hk12.cell 8 (v:=.slice E es'.length ec) rfl
        have f8:=hk12.free 8
        clear hk12
        refine planE_ownA hK ?_
        clear hK K
        iterate 3 (refine planE_pureA ?_)
        refine planE_eff rfl (by rfl) (fun K hK=>?_)
        go_simp
        skip
        refine planE_ownA hK ?_
        clear hK K
        refine planE_end ?_
        go_wp2_with fail
        go_roundw
        case rel =>
         have m13:Mods (fun b=>b=q\/w8.heap.size<=b) w12 (w12.setCell ⟨q,8,none⟩ (.slice E' ys.length ec')):=(Mods.refl (fun b=>b=q\/w8.heap.size<=b) w12).setCell ⟨q,8,none⟩ (.inl (.inl rfl)) _
         refine⟨k+1,E',ec',es'++[(⟨ix,tx,kx,dx,bx⟩,X,xc)],by omega,by have:=HN20.out;first | rfl | (simp;omega),qh (by rw[HTX.out,List.map_append,HT.out];rfl),qh ⟨?_,?_,G12.out.2.2.then m13⟩⟩
         ·have:=G12.out.1.setCell 8 (.slice E' ys.length ec')
          rw[<-HYL.out]
          exact this
         ·exact⟨G12.out.2.1.row.mods ((Mods.refl (·=q) w12).setCell ⟨q,8,none⟩ (.inl rfl) _) (fun b hb e=>by have:=(G12.out.2.1.row.blk_lt b hb).1;omega),fun y hy=>(G12.out.2.1.ob y hy).setCell (a:=⟨q,8,none⟩) hqw _⟩
        case measure =>
         have:=HN20.out
         simp[intOf]
         omega
       ·have hki:¬(n20:Int)<(N:Int):=by omega
        have hkx:j0+k=es.length:=by omega
        clear HL hnj hN
        go_wp2_with (go_at_call 81;refine NXH.out.mono ?_)
        first | rintro e w21 rfl n2 rfl | rintro e w21 ⟨rfl,n2,rfl⟩
        clear NXH
        go_wp2_with fail
        go_ret
        obtain⟨Q8,M8,P1,P2,P3,L8⟩:=H8.out
        have hb21:Below w20.heap.size w20 (w20.drewN n2):=belowDrewN (Below.refl _ _) n2
        have hM:Mods (fun b=>b=q\/w8.heap.size<=b) w8 (w20.drewN n2):=HR.out.2.2.below hb21
        have hnr:∀b,w.heap.size<=b->b<w8.heap.size->¬(b=q\/w8.heap.size<=b):=fun b h1 h2 e=>by omega
        have hfs:(es.drop j0).take k=es.drop j0:=List.take_of_length_le (by rw[List.length_drop];omega)
        refine⟨A,ac,Bb,bc,C,cc,E,ec,es',S,F,rfl,HR.out.1.kept hb21,by rw[HXE.out,if_pos trivial,HJ0.out,HT.out,hfs],⟨(HR.out.2.1.below hb21).row.mono hw8s,fun y hy=>((HR.out.2.1.below hb21).ob y hy).base_le hw8s⟩,P1.mods hM (fun b hb=>hnr b (P1.blk_lt b hb).1 (P1.blk_lt b hb).2),P2.mods hM (fun b hb=>hnr b (P2.blk_lt b hb).1 (P2.blk_lt b hb).2),P3.mods hM (fun b hb=>hnr b (P3.blk_in b hb).1 (P3.blk_in b hb).2),?_,fun b hb=>.inl hb,fun b hb=>.inl hb,(M8.trans hM (fun b e=>e.elim .inl (fun e=>.inr (by omega)))).mono (fun b _ e=>.inl e),fun _=>⟨rfl,rfl⟩⟩
        rw[HXL.out,HXD.out,if_pos trivial,if_pos trivial]
        exact⟨_,_,_,_,_,_,L8.mods hM (fun b hb e=>e.elim (fun e=>HSQ.out.2 (by rw[<-e];exact hb)) (fun e=>by have:=(L8.lb.bnd b hb).2;omega)) (L8.lb.di.mods hM (fun b _ hs e=>e.elim (fun e=>HSQ.out.1 (by rw[<-e];exact hs)) (fun e=>by have:=L8.lb.di.bnd b hs;omega))) (fun b hb=>.inl hb) (Nat.le_trans hB hw8s)⟩
end
end Go.Proofs.YtobdmlejabjmiaaGreatDoor
