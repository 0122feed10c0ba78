/- Made small by a program. -/
import Derived.Test.YtobdmlejabjmiaaGreatDoorZc36
import Derived.Test.YtobdmlejabjmiaaGreatDoorZc37
import Derived.Test.YtobdmlejabjmiaaGreatDoorZc39
set_option maxRecDepth 20000
set_option maxHeartbeats 8000000
namespace Go.Proofs.YtobdmlejabjmiaaGreatDoor
open Go.RowKit
theorem SR.carry{B p g cv co:Nat}{S S' T:Nat->Prop}{w w':World}{s:Sl}{D D':DSt}{V O:Option Addr}(h:SR B S w p g s D V cv O co)(hB:B<=w.heap.size)(hd:DI S' w' g D')(hn:∀b,S' b->S b\/w.heap.size<=b)(m:Mods T w w')(hp:¬T p)(hv:∀b,V.map (·.block)=some b->¬T b)(ho:∀b,O.map (·.block)=some b->¬T b):SR B S' w' p g s D' V cv O co :=
 ⟨h.blk.mods m hp,hd,h.val.mods m hv,h.old.mods m ho,h.ge,fun b hb=>(hn b hb).elim (h.sge b) (fun h1=>by omega),fun hb=>by
  rcases hn _ hb with hb | hb
  ·exact h.ps hb
  ·have:=h.blk.lt;omega,fun b hb hs=>by
  rcases hn _ hs with hs | hs
  ·exact h.vs b hb hs
  ·have:=(h.val.blk_in b hb).2;omega,fun b hb hs=>by
  rcases hn _ hs with hs | hs
  ·exact h.os b hb hs
  ·have:=(h.old.blk_lt b hb).2;omega,h.bl,h.on⟩
structure SP where
 q:Nat
 ph:Nat
 ps:Nat
 pl:Nat
 V:Option Addr
 vc:Nat
 L:Option Addr
 lc:Nat
 A:Option Addr
 ac:Nat
 E:Option Addr
 ec:Nat
 Vs:Option Addr
 cvs:Nat
 Os:Option Addr
 cos:Nat
structure SV where
 ht:Nat
 hv:Int
 i:Nat
 t:Nat
 v:List Int
 l:List Int
 d:List UInt8
 es:List ERow
 ss:Sl
 lg:Lg
 dn:Bool
def SP.own(z:SP)(es:List ERow)(b:Nat):Prop:=z.V.map (·.block)=some b\/z.L.map (·.block)=some b\/z.A.map (·.block)=some b\/z.E.map (·.block)=some b\/∃y∈es,y.2.1.map (·.block)=some b
structure ST(B:Nat)(S F:Nat->Prop)(w:World)(g:Nat)(z:SP)(x:SV)(D:DSt):Prop where
 blk:Blk w z.q 72 (storeL g z.ph z.ps z.pl x.ht x.hv x.i x.t x.v x.l x.d z.V z.vc z.L z.lc z.A z.ac z.E x.es.length z.ec x.dn)
 ss:SR B S w z.ps g x.ss D z.Vs z.cvs z.Os z.cos
 lr:LR B S F w z.pl g x.lg D
 rv:OV w B 3 z.V z.vc (ncells .i64 x.v)
 rl:OV w B 3 z.L z.lc (ncells .i64 x.l)
 rd:OB w B z.A z.ac x.d
 re:EO w B z.E z.ec x.es
 qS:¬S z.q
 qF:¬F z.q
 sF:¬F z.ps
 vF:∀b,z.Vs.map (·.block)=some b\/z.Os.map (·.block)=some b->¬F b
 own:∀b,z.own x.es b->¬S b/\¬F b
 qB:B<=z.q
def OpenG(B:Nat)(S:Nat->Prop)(w:World)(g:Nat)(ht:Nat)(hv:Int)(i t:Nat)(v l:List Int)(d:List UInt8)(fits:Bool)(es:List En)(sh ss:Sl)(lg:Lg)(D:DSt)(e:Ending)(w':World):Prop :=
 ∃(z:SP) (A':Option Addr) (ac':Nat) (B':Option Addr) (bc':Nat) (C':Option Addr) (cc':Nat) (E':Option Addr) (ec':Nat) (es2:List ERow) (nb:Nat) (S':Nat->Prop),e=.returned (.tuple #[.pointer (some ⟨z.q,0,none⟩),.agg (stateL ht hv i t v l d A' ac' B' bc' C' cc' E' es2.length ec'),.int .i64 0])/\es2.map Prod.fst=es /\
  EO w' nb E' ec' es2/\OV w' nb 3 A' ac' (ncells .i64 v)/\OV w' nb 3 B' bc' (ncells .i64 l)/\OB w' nb C' cc' d/\w.heap.size<=nb/\DI S' w' g D/\(∀b,S' b->S b\/w.heap.size<=b)/\(∀b,S' b->b<nb)/\Mods S w w' /\
  (fits=true->∃(F':Nat->Prop) (es3:List ERow) (Vh:Option Addr) (cvh:Nat) (Oh:Option Addr) (coh:Nat),es3.map Prod.fst=es/\ST B S' F' w' g z ⟨ht,hv,i,t,v,l,d,es3,ss,lg,false⟩ D/\SR B S' w' z.ph g sh D Vh cvh Oh coh/\¬F' z.ph/\z.ph≠z.ps)
structure OpWay(K0:DSt)(K1 K2 K3:DSt)(sc1 sc2:Sc)(lg:Lg)(es:List En):Prop where
 o1:scanD nmHard K0=sc1/\openD nmHard K0=(0,K1)
 o2:scanD nmShot K1=sc2/\openD nmShot K1=(0,K2)
 o3:openW K2=(0,lg,K3)
 d0:K0.down=false
 d1:K1.down=false
 c0:K0.cnt<=1000
 c1:K1.cnt<=1000
 c3:K3.cnt<=1000
 n0:∀p∈K0.files,nameOk p.1=true
 n1:∀p∈K1.files,nameOk p.1=true
 n3:∀p∈K3.files,p.1.length<=9223372036854775807
 k0:Canon nmHard K0
 k1:Canon nmShot K1
 sx:(namesD K3).contains [116,46,120]=false
 nl:(namesD K3).length<=1000
 ess:∀x∈es,x.sound
 rcs:lg.recs=es.map En.bytes
 ldn:lg.down=false
 lf:lg.first<=1000000000000
 el:es.length<=1000
 era:lg.era<=1000000000000
 sn:∀s∈lg.segs,s.name.length<=1000
 sl:lg.segs.length<=1000
section
variable {B g:Nat} {S:Nat->Prop} {w w':World}
theorem jO(ht:Nat)(hvv:Int)(i t:Nat)(v l:List Int)(d:List UInt8)(i0 t0:Nat)(v0 l0:List Int)(d0:List UInt8)(V:Option Addr)(vc:Nat)(L:Option Addr)(lc:Nat)(Dd:Option Addr)(dc:Nat)(K0 K1 K2 K3:DSt)(sc1 sc2:Sc)(lg:Lg)(es:List En)(way:OpWay K0 K1 K2 K3 sc1 sc2 lg es)
  (hD:DI S w g K0) (hB:B<=w.heap.size) (hS:∀b,S b->B<=b) (hE:SEnv B w) (hv:RV w V (ncells .i64 v0)) (hl:RV w L (ncells .i64 l0)) (hd:RB w Dd d0)
  (hVS:0<v0.length->∀k,V.map (·.block)=some k->¬S k) (hLS:0<l0.length->∀k,L.map (·.block)=some k->¬S k) (hDS:0<d0.length->∀k,Dd.map (·.block)=some k->¬S k) (hr:shotB i0 t0 v0 l0 d0.length=true)
  (hH:HardOf (openS nmHard sc1) ht hvv) (hSh:ShotOf (openS nmShot sc2) i t v l d i0 t0 v0 l0 d0) (hi:i<=4611686018427387904) (hvl:v.length<=1000000/\l.length<=1000000/\d.length<=1000000)
  (hWO:∀(S':Nat->Prop) (wx:World),DI S' wx g K2->(∀b,S' b->B<=b)->Below B w wx->B<=wx.heap.size->Calls Tryz.prog 27 #[.pointer (some ⟨g,0,none⟩)] wx (OpenE B S' wx g (openW K2))) (fits:Bool) (hfit:fitsB lg es i t=fits) (hrs:fits=false->(resetW lg K3 (i+1)).1=0) :
  Calls Tryz.prog 8 #[.pointer (some ⟨g,0,none⟩),.agg (shotC i0 t0 v0 l0 d0 V vc L lc Dd dc)] w (OpenG B S w g ht hvv i t v l d fits (if fits=true then es.drop (i+1 - lg.first) else []) (openS nmHard sc1) (openS nmShot sc2) (if fits=true then lg else(resetW lg K3 (i+1)).2.1) (if fits=true then K3 else(resetW lg K3 (i+1)).2.2)):=by
 obtain⟨esx,hesx⟩:∃esx,esx=(if fits=true then es.drop (i+1 - lg.first) else []):=⟨_,rfl⟩;obtain⟨lgx,hlgx⟩:∃lgx,lgx=(if fits=true then lg else(resetW lg K3 (i+1)).2.1):=⟨_,rfl⟩;obtain⟨Kx,hKx⟩:∃Kx,Kx=(if fits=true then K3 else(resetW lg K3 (i+1)).2.2):=⟨_,rfl⟩;rw[<-hesx,<-hlgx,<-hKx];have HXX:Hid (esx.length<=1000/\(∀x∈esx,x.dat.length<=4096)/\(fits=true->Kx=K3)):=qh (by
  have h1:∀x∈esx,x∈es:=fun x hx=>by
   rw[hesx] at hx;split at hx
   ·exact List.mem_of_mem_drop hx
   ·cases hx
  refine⟨?_,fun x hx=>(yA (way.ess x (h1 x hx))).2.2.2.2.2.2.1,fun hf=>by rw[hKx,if_pos hf]⟩;have:=way.el;rw[hesx];split
  ·rw[List.length_drop];omega
  ·simp)
 have HXE:=qh hesx;have HXL:=qh hlgx;have HXK:=qh hKx;clear hesx hlgx hKx;obtain⟨q1,q2,_,q4,q5⟩:=zI hr;obtain⟨q6,q7,_⟩:=zP q1;have n1:=zD q6;have n2:=zD q7;have hal:Below w.heap.size w ((w.alloc (.cells (shotC i0 t0 v0 l0 d0 V vc L lc Dd dc) 36)).alloc (.cells state0 38)):=((Below.refl _ _).alloc (Nat.le_refl _) _).alloc (by simp) _;have Z1:=(Blk.new w (shotC i0 t0 v0 l0 d0 V vc L lc Dd dc) 36).below (((Below.refl (w.heap.size+1) _).alloc (by simp) (.cells state0 38))) (Nat.lt_succ_self _);have hZ2:=Blk.new (w.alloc (.cells (shotC i0 t0 v0 l0 d0 V vc L lc Dd dc) 36)) state0 38;have hws:(w.alloc (.cells (shotC i0 t0 v0 l0 d0 V vc L lc Dd dc) 36)).heap.size=w.heap.size+1:=by simp
 have hws2:((w.alloc (.cells (shotC i0 t0 v0 l0 d0 V vc L lc Dd dc) 36)).alloc (.cells state0 38)).heap.size=w.heap.size+2:=by simp
 rw[hws] at hZ2;have MS:=qh (zcm i0 t0 v0 l0 d0 V vc L lc Dd dc _ (hv.below hal) (hl.below hal) (hd.below hal) (by omega) (by omega) (by omega) (by omega) (by omega) true hr);have O0:Hid (OA S i0 t0 v0 l0 d0 V vc L lc Dd dc w ((w.alloc (.cells (shotC i0 t0 v0 l0 d0 V vc L lc Dd dc) 36)).alloc (.cells state0 38))):=qh
  {n0:=Z1,t5:=hZ2,rv:=hv.below hal,rl:=hl.below hal,rd:=hd.below hal,md:=Mods.of_below hal,sb:=hD.bnd,
   vs:=fun h0 k hk=>⟨zdX hv (by rw[zp];exact h0) k hk,hVS h0 k hk⟩,
   ls:=fun h0 k hk=>⟨zdX hl (by rw[zp];exact h0) k hk,hLS h0 k hk⟩,
   ds:=fun h0 k hk=>⟨hd.blk_lt h0 k hk,hDS h0 k hk⟩ }
 have HD:=qh hD;have HY:=qh way;have HWO:=qh hWO;have HHS:=qh (And.intro hH (And.intro hSh (And.intro hfit hrs)));obtain⟨m1,m2,m3⟩:=hvl;have HE:=qh hE;have HS:=qh hS;have HWS:=qh hws2;have HAL:=qh hal;have N0:=qh Z1;clear hal Z1 hZ2 hws hws2 hv hl hd hr hD hE hS hVS hLS hDS q1 q6 q7 way hWO hH hSh hfit hrs;unfold shotC state0 at *;go_enter Tryz.func8,Tryz.ntmps8;go_wp2_with (refine wpList_load_row rfl 36 (.tmp 3) rfl w.heap.size rfl 36 (shotC i0 t0 v0 l0 d0 V vc L lc Dd dc) (0,0) _ N0.out Tryz.underlying36 rfl zq ?_);refine MS.out.mono ?_;rintro e w1 ⟨A0,k0,c0,e0,rfl,b1,p1,p2⟩;obtain⟨rfl,_⟩:=p2 rfl;rw[HWS.out] at b1;have O1:=O0.out.step (Mods.of_below (S:=fun _=>False) (by rw[HWS.out];exact b1)) (fun b e=>e.elim);have hsz1:w.heap.size+2<=w1.heap.size:=by have:=b1.size;rw[HWS.out] at this;exact this
 have hb2:Below w1.heap.size w1 (w1.alloc (.cells (storeI g none none none) 72)):=(Below.refl _ _).alloc (Nat.le_refl _) _;have QN:=Blk.new w1 (storeI g none none none) 72;have O2:=O1.step (Mods.of_below (S:=fun _=>False) hb2) (fun b e=>e.elim);have hbw:Below w.heap.size w w1:=HAL.out.trans (b1.mono (by omega));have HBW:=hbw.trans (hb2.mono (by omega));have D2:=HD.out.below HBW;have E2:=HE.out.below (HBW.mono hB);obtain⟨q,hq⟩:∃q,q=w1.heap.size:=⟨_,rfl⟩;obtain⟨w2,hw2⟩:∃w2,w2=w1.alloc (.cells (storeI g none none none) 72):=⟨_,rfl⟩;rw[<-hw2] at QN O2 D2 E2 HBW;rw[<-hq] at QN hsz1;have hs2:w2.heap.size=q+1:=by rw[hw2,hq];simp
 have so1:=zbd D2 HS.out (Nat.le_trans hB HBW.size) E2 j8 HY.out.d0 HY.out.c0 HY.out.n0 HY.out.k0 (by rw[HY.out.o1.2]);rw[HY.out.o1.1,HY.out.o1.2] at so1;obtain⟨sh,hsh⟩:∃sh,sh=openS nmHard sc1:=⟨_,rfl⟩;rw[<-hsh] at so1;have HSH:=qh hsh;have SO1:=qh so1;have Q2:=qh QN;have P2:=qh O2;have HB2:=qh HBW;have HQW:=qh (And.intro hq hw2);clear MS b1 p1 p2 O0 O1 QN O2 D2 E2 HBW hb2 hbw HAL N0 HWS hq hw2 so1 hsh;unfold nmHard at SO1;go_wp2_with fail;rw[<-HQW.out.2,<-HQW.out.1];refine SO1.out.mono ?_;rintro e w3 ⟨p1,S1,V1,cv1,U1,co1,rfl,r1,k1,m1,j1⟩;have hqS1:¬S1 q:=fun e=>(k1 _ e).elim (fun e=>by have:=HD.out.bnd _ e;omega) (fun e=>by omega)
 have Q3:=Q2.out.mods m1 (fun e=>by have:=HD.out.bnd _ e;omega);have O3:=P2.out.step m1 (fun b e=>.inl e);have M4:Mods (·=q) w3 (w3.setCell ⟨q,9,none⟩ (.pointer (some ⟨p1,0,none⟩))):=Mods.setCell (S:=(·=q)) (Mods.refl (·=q) w3) ⟨q,9,none⟩ (.inl rfl) _;have Q4:Blk (w3.setCell ⟨q,9,none⟩ (.pointer (some ⟨p1,0,none⟩))) q 72 (storeI g (some ⟨p1,0,none⟩) none none):=Q3.setCell 9 (.pointer (some ⟨p1,0,none⟩));have O4:=O3.step M4 (fun b e=>.inr (by omega));have R4:=r1.keepq M4 Q3 hqS1;have c9:=Q3.cell 9 (v:=.pointer none) rfl;have f9:=Q3.free 9;have hm4:=M4.size;have hm1:=m1.size;have BB4:Below B w (w3.setCell ⟨q,9,none⟩ (.pointer (some ⟨p1,0,none⟩))):=Mods.old (Below.refl B w) O4.md hB (fun b _ e=>HS.out b e);obtain⟨w4,hw4⟩:∃w4,w4=w3.setCell ⟨q,9,none⟩ (.pointer (some ⟨p1,0,none⟩)):=⟨_,rfl⟩;rw[<-hw4] at M4 Q4 O4 R4 hm4 BB4;have hsz4:w.heap.size<=w4.heap.size:=O4.md.size;have E4:=HE.out.below BB4;have so2:=zbd R4.di R4.sge (Nat.le_trans hB hsz4) E4 j9 HY.out.d1 HY.out.c1 HY.out.n1 HY.out.k1 (by rw[HY.out.o2.2]);rw[HY.out.o2.1,HY.out.o2.2] at so2;obtain⟨ss,hss⟩:∃ss,ss=openS nmShot sc2:=⟨_,rfl⟩;rw[<-hss] at so2;have HSS:=qh hss;have SO2:=qh so2;have HK1:Hid (∀b,S1 b->S b\/w.heap.size+2<=b):=qh (fun b e=>(k1 b e).elim .inl (fun e=>.inr (by omega)));have G4:=qh (And.intro Q4 (And.intro O4 (And.intro R4 (And.intro hw4 hqS1))));clear SO1 r1 k1 Q3 O3 M4 Q4 O4 R4 hw4 E4 P2 Q2 hqS1 so2 hss;unfold nmShot at SO2;go_wp2_with fail;rw[<-G4.out.2.2.2.1];refine SO2.out.mono ?_;rintro e w5 ⟨p2,S2,V2,cv2,U2,co2,rfl,r2,k2,m2,j2⟩;obtain⟨Q4,O4,R4,hw4,hqS1⟩:=G4.out;have hpp:p1≠p2:=by have:=R4.blk.lt;omega
 have hq4:=Q4.lt;have hqS2:¬S2 q:=fun e=>(k2 _ e).elim hqS1 (fun e=>by omega)
 have Q5:=Q4.mods m2 hqS1;have O5:=O4.step m2 HK1.out;have R5:=R4.moved (Nat.le_trans hB hsz4) r2.di k2 m2;have M6:Mods (·=q) w5 (w5.setCell ⟨q,10,none⟩ (.pointer (some ⟨p2,0,none⟩))):=Mods.setCell (S:=(·=q)) (Mods.refl (·=q) w5) ⟨q,10,none⟩ (.inl rfl) _;have Q6:Blk (w5.setCell ⟨q,10,none⟩ (.pointer (some ⟨p2,0,none⟩))) q 72 (storeI g (some ⟨p1,0,none⟩) (some ⟨p2,0,none⟩) none):=Q5.setCell 10 (.pointer (some ⟨p2,0,none⟩));have O6:=O5.step M6 (fun b e=>.inr (by omega));have R6:=R5.keepq M6 Q5 hqS2;have R6s:=r2.keepq M6 Q5 hqS2;have c10:=Q5.cell 10 (v:=.pointer none) rfl;have f10:=Q5.free 10;have hm2:=m2.size;have BB6:Below B w (w5.setCell ⟨q,10,none⟩ (.pointer (some ⟨p2,0,none⟩))):=Mods.old (Below.refl B w) O6.md hB (fun b _ e=>HS.out b e);have hm6:=M6.size;obtain⟨w6,hw6⟩:∃w6,w6=w5.setCell ⟨q,10,none⟩ (.pointer (some ⟨p2,0,none⟩)):=⟨_,rfl⟩;rw[<-hw6] at M6 Q6 O6 R6 R6s BB6 hm6;have hsz6:w.heap.size<=w6.heap.size:=O6.md.size;have wo:=HWO.out S2 w6 R6.di R6.sge BB6 (Nat.le_trans hB hsz6);rw[HY.out.o3] at wo;have WO:=qh wo;have HK2:Hid (∀b,S2 b->S b\/w.heap.size+2<=b):=qh (fun b e=>(k2 b e).elim (HK1.out b) (fun e=>.inr (by omega)));have G6:=qh (And.intro Q6 (And.intro O6 (And.intro R6 (And.intro R6s (And.intro hw6 hqS2)))));clear SO2 r2 k2 Q4 O4 R4 hw4 hqS1 G4 Q5 O5 R5 M6 Q6 O6 R6 R6s hw6 c9 f9 BB4 BB6 hqS2 m1 m2 HK1 wo HWO;go_wp2_with fail;rw[<-G6.out.2.2.2.2.1];refine WO.out.mono ?_;rintro e w7 ⟨p3,S3,F3,he7,hLR,k3,kf3,m3⟩;rw[if_pos rfl] at he7;subst he7;simp only at hLR;obtain⟨Zl,Yl,SA,sc,RA,rc,hx⟩:=hLR;obtain⟨Q6,O6,R6,R6s,hw6,hqS2⟩:=G6.out;have hq6:=Q6.lt;have hqS3:¬S3 q:=fun e=>(k3 _ e).elim hqS2 (fun e=>by omega)
 have hqF3:¬F3 q:=fun e=>by have:=kf3 _ e;omega
 have Q7:=Q6.mods m3 hqS2;have O7:=O6.step m3 HK2.out;have R7:=R6.moved (Nat.le_trans hB hsz6) hx.lb.di k3 m3;have R7s:=R6s.moved (Nat.le_trans hB hsz6) hx.lb.di k3 m3;have M8:Mods (·=q) w7 (w7.setCell ⟨q,11,none⟩ (.pointer (some ⟨p3,0,none⟩))):=Mods.setCell (S:=(·=q)) (Mods.refl (·=q) w7) ⟨q,11,none⟩ (.inl rfl) _;have Q8:Blk (w7.setCell ⟨q,11,none⟩ (.pointer (some ⟨p3,0,none⟩))) q 72 (storeI g (some ⟨p1,0,none⟩) (some ⟨p2,0,none⟩) (some ⟨p3,0,none⟩)):=Q7.setCell 11 (.pointer (some ⟨p3,0,none⟩));have O8:=O7.step M8 (fun b e=>.inr (by omega));have R8:=R7.keepq M8 Q7 hqS3;have R8s:=R7s.keepq M8 Q7 hqS3;have hm3:=m3.size;have L8:=hx.mods M8 (fun b hb e=>hqF3 (by rw[<-e];exact hb)) (hx.lb.di.mods M8 (fun b _ hs e=>hqS3 (by rw[<-e];exact hs))) (fun b hb=>.inl hb) (Nat.le_trans (Nat.le_trans hB hsz6) hm3);have c11:=Q7.cell 11 (v:=.pointer none) rfl;have f11:=Q7.free 11;have hm8:=M8.size;obtain⟨w8,hw8⟩:∃w8,w8=w7.setCell ⟨q,11,none⟩ (.pointer (some ⟨p3,0,none⟩)):=⟨_,rfl⟩;rw[<-hw8] at Q8 O8 R8 R8s L8 hm8;have HW8:=qh hw8.symm;have hb9:Below w8.heap.size w8 (w8.alloc (.cells #[.int .i64 0,.int .i64 0,.int .i64 0] 27)):=(Below.refl _ _).alloc (Nat.le_refl _) _;have hrl8:=RV.lit w8 (ncells .i64 [0,0,0]) 27 (0,0);rw[show w8.heap.size=w7.heap.size from by rw[hw8];simp] at hrl8;have FS:=qh (qT (some ⟨w7.heap.size,0,none⟩) 3 _ hrl8);have D9:=R8.di.below hb9;have NM:=xd D9 (Nat.le_trans HY.out.c3 (by decide)) HY.out.n3;obtain⟨nms,hnms⟩:∃nms,nms=namesD K3:=⟨_,rfl⟩;rw[<-hnms] at NM;have HNM:=qh hnms;clear hnms;have NMH:=qh NM;have HB9:=qh hb9;have HK3:Hid (∀b,S3 b->S b\/w.heap.size+2<=b):=qh (fun b e=>(k3 b e).elim (HK2.out b) (fun e=>.inr (by omega)));have HFP:Hid (¬F3 p1/\¬F3 p2/\∀b,V2.map (·.block)=some b\/U2.map (·.block)=some b->¬F3 b):=qh ⟨fun e=>by have:=kf3 _ e;have:=R6.blk.lt;omega,fun e=>by have:=kf3 _ e;have:=R6s.blk.lt;omega,fun b hb e=>by
  have h1:=kf3 b e
  rcases hb with hb | hb
  ·have:=(R6s.val.blk_in b hb).2;omega
  ·have:=(R6s.old.blk_lt b hb).2;omega⟩
 have HKF:Hid (∀b,F3 b->w.heap.size+2<=b):=qh (fun b e=>by have:=kf3 b e;omega);have G8:=qh (And.intro Q8 (And.intro O8 (And.intro R8 (And.intro R8s (And.intro L8 (And.intro hqS3 hqF3))))));clear hrl8 WO hx k3 kf3 Q6 O6 R6 R6s hw6 hqS2 G6 Q7 O7 R7 R7s M8 Q8 O8 R8 R8s L8 hw8 c10 f10 D9 NM hb9 hqS3 hqF3 HK2 m3;go_wp2_with fail;rw[HW8.out];refine FS.out.mono ?_;rintro e w9 ⟨rfl,rfl⟩;go_wp2_with fail;refine NMH.out.mono ?_;rintro e w10 ⟨An,cn,rfl,on,b10⟩;have CS:=qh (zbt An cn nms [116,46,120] w10 on.rv (by rw[HNM.out];have:=HY.out.nl;omega) false (by rw[HNM.out];exact HY.out.sx));obtain⟨Q8,O8,R8,R8s,L8,hqS3,hqF3⟩:=G8.out;have hb10:Below w8.heap.size w8 w10:=zn HB9.out b10;have hsz8:w.heap.size<=w8.heap.size:=O8.md.size;have O10:=O8.step (Mods.of_below (S:=fun _=>False) hb10) (fun b e=>e.elim);have hsz10:=O10.md.size;have E10:=HE.out.below (Mods.old (Below.refl B w) O10.md hB (fun b _ e=>HS.out b e));have Q10:=Q8.kept hb10;have R10:=R8.below hb10;have q9:=Q10.lt;have ld:=zd6 ht hvv i t v l d i0 t0 v0 l0 d0 V vc L lc Dd dc es Q10 R10 (R8s.below hb10) (L8.below hb10) (by rw[HSH.out];exact HHS.out.1) (by rw[HSS.out];exact HHS.out.2.1) hqS3 hqF3 (Nat.le_trans hB hsz10) E10 (by omega) O10.rv O10.rl O10.rd
  (fun h0 k hk e=>by have:=(O10.vs h0 k hk).1;omega) (fun h0 k hk e=>by have:=(O10.ls h0 k hk).1;omega) (fun h0 k hk e=>by have:=(O10.ds h0 k hk).1;omega) (by omega) (by omega) (by omega) hi
  HY.out.ess HY.out.rcs HY.out.ldn HY.out.lf HY.out.el HY.out.era HY.out.sn HY.out.sl HY.out.c3 fits HHS.out.2.2.1 HHS.out.2.2.2
 rw[<-HXE.out,<-HXL.out,<-HXK.out] at ld;have LD:=qh ld;have N10:=qh O10.n0;have LB:=qh (And.intro L8.lb.di.bnd (fun b hb=>(L8.lb.bnd b hb).2));have R10s:=R8s.below hb10;have G10:=qh (And.intro O10 (And.intro R10 (And.intro hqS3 (And.intro hqF3 (And.intro R10s (L8.below hb10))))));have HQ10:=qh Q10;have HS10:=qh hb10.size;clear on b10 NMH hb10 O10 E10 Q10 R10 Q8 O8 R8 R8s L8 hqS3 hqF3 R10s G8 HB9 FS c11 f11 ld;go_wp2_with (first
  | (go_at_call 29;refine CS.out.mono ?_;rintro e w11 ⟨rfl,h11⟩;rw[h11];clear h11 w11)
  | (refine wpList_load_row rfl 36 (.tmp 3) rfl w.heap.size rfl 36 (shotC i0 t0 v0 l0 d0 V vc L lc Dd dc) (0,0) _ N10.out Tryz.underlying36 rfl zq ?_))
 refine LD.out.mono ?_;rintro e w12 ⟨A,ac,Bb,bc,C,cc,E,ec,es',S4,F4,rfl,Q12,hes',oe,o1,o2,o3,hLR,ks4,kf4,m12,hfx⟩;obtain⟨O10,R10,hqS3,hqF3,R10s,L10⟩:=G10.out;have hq10:q<w10.heap.size:=q9;have O12:=O10.step m12 (fun b e=>e.elim (fun e=>.inr (by omega)) (fun e=>e.2.elim (HK3.out b) (fun e=>.inr (HKF.out b e))));have hsz12:=m12.size;have hesl:es'.length<=1000:=by
  have h1:=HXX.out.1;rw[<-hes',List.length_map] at h1;exact h1
 have rg:w12.rangeAt q 1 (stateL ht hvv i t v l d A ac Bb bc C cc E es'.length ec).toList:=Q12.range 1 _ (by
  intro j x hj
  match j,hj with
  | 0,hj=>simpa using hj
  | 1,hj=>simpa using hj
  | 2,hj=>simpa using hj
  | 3,hj=>simpa using hj
  | 4,hj=>simpa using hj
  | 5,hj=>simpa using hj
  | 6,hj=>simpa using hj
  | 7,hj=>simpa using hj
  | j+8,hj=>simp at hj)
 have RG:=qh rg;have CL:=qh (qQ ht hvv i t v l d A ac Bb bc C cc E ec es' w12 oe.el (by omega) (fun y hy=>by have:=HXX.out.2.1 y.1 (by rw[<-hes'];exact List.mem_map_of_mem hy);omega) o1.rv o2.rv o3.rb m1 m2 m3);have T12:=qh O12.t5;have G12:=qh (And.intro O12 (And.intro Q12 (And.intro oe (And.intro o1 (And.intro o2 (And.intro o3 (And.intro hLR (And.intro ks4 (And.intro kf4 (And.intro m12 (And.intro hfx (And.intro R10 (And.intro hqS3 (And.intro hqF3 (And.intro R10s (And.intro L10 hes'))))))))))))))));clear O10 O12 R10 hqS3 hqF3 R10s L10 G10 Q12 oe o1 o2 o3 hLR ks4 kf4 m12 hfx rg LD N10 CS hes';go_wp2_with (refine wpList_load_mid rfl 38 (.tmp 82) rfl q 1 rfl (stateL ht hvv i t v l d A ac Bb bc C cc E es'.length ec).toList _ RG.out Tryz.underlying38 rfl zA ?_);refine CL.out.mono ?_;rintro e w13 ⟨A',ac',B',bc',C',cc',E',ec',es2,rfl,he2,oe',o1',o2',o3',b13⟩;have T13:=qh (T12.out.kept b13);have B13:=qh b13;have G13:=qh (And.intro he2 (And.intro oe' (And.intro o1' (And.intro o2' o3'))));clear CL he2 oe' o1' o2' o3' b13 RG T12;go_wp2_with (refine wpList_store_row rfl 38 (.tmp 5) (.tmp 84) rfl (w.heap.size+1) (stateL ht hvv i t v l d A' ac' B' bc' C' cc' E' es2.length ec') rfl rfl _ _ T13.out zA rfl (by simp[Value.oneCell']) ?_);have Y:=T13.out.setRow (stateL ht hvv i t v l d A' ac' B' bc' C' cc' E' es2.length ec');have y0:=Y.cell 0 rfl;have y1:=Y.cell 1 rfl;have y2:=Y.cell 2 rfl;have y3:=Y.cell 3 rfl;have y4:=Y.cell 4 rfl;have y5:=Y.cell 5 rfl;have y6:=Y.cell 6 rfl;have y7:=Y.cell 7 rfl;refine bodyPost_ret (v:=.tuple #[.pointer (some ⟨q,0,none⟩),.agg (stateL ht hvv i t v l d A' ac' B' bc' C' cc' E' es2.length ec'),.int .i64 0]) (by simp[results,Tryz.results8,go_sem,y0,y1,y2,y3,y4,y5,y6,y7]) rfl ?_;obtain⟨O12,Q12,oe,o1,o2,o3,hLR,ks4,kf4,m12,hfx,R10,hqS3,hqF3,R10s,L10,hes'⟩:=G12.out;obtain⟨he2,oe',o1',o2',o3'⟩:=G13.out;obtain⟨Zx,Yx,SAx,scx,RAx,rcx,hx⟩:=hLR;have hn1q:w.heap.size+1<w10.heap.size:=by omega
 have mr:Mods (·=w.heap.size+1) w13 (w13.setRow (w.heap.size+1) (stateL ht hvv i t v l d A' ac' B' bc' C' cc' E' es2.length ec')):=(Mods.refl (·=w.heap.size+1) w13).setRow (w.heap.size+1) (.inl rfl) _;have M':Mods (·=w.heap.size+1) w12 (w13.setRow (w.heap.size+1) (stateL ht hvv i t v l d A' ac' B' bc' C' cc' E' es2.length ec')):=(Mods.of_below (S:=(·=w.heap.size+1)) B13.out).then mr
 have hS4:¬S4 (w.heap.size+1):=fun e=>(ks4 _ e).elim (fun e=>(HK3.out _ e).elim (fun e=>by have:=HD.out.bnd _ e;omega) (fun e=>by omega)) (fun e=>by omega)
 have hF4:¬F4 (w.heap.size+1):=fun e=>(kf4 _ e).elim (fun e=>by have:=HKF.out _ e;omega) (fun e=>by omega)
 have hL14:=hx.mods M' (fun b hb e=>hF4 (by rw[<-e];exact hb)) (hx.lb.di.mods M' (fun b _ hs e=>hS4 (by rw[<-e];exact hs))) (fun b hb=>.inl hb) (by omega);have hBw:B<=w10.heap.size:=by omega
 have hbase:∀b,w10.heap.size<=b->b≠w.heap.size+1:=fun b h e=>by omega
 refine⟨⟨q,p1,p2,p3,A,ac,Bb,bc,C,cc,E,ec,V2,cv2,U2,co2⟩,A',ac',B',bc',C',cc',E',ec',es2,w12.heap.size,S4,rfl,by rw[he2,hes'],oe'.mods mr (fun b h1 _ e=>by omega),o1'.mods mr (fun k hk e=>by have:=(o1'.blk_lt k hk).1;omega),o2'.mods mr (fun k hk e=>by have:=(o2'.blk_lt k hk).1;omega),o3'.mods mr (fun k hk e=>by have:=(o3'.blk_in k hk).1;omega),by omega,hL14.lb.di,fun b e=>(ks4 b e).elim (fun e=>(HK3.out b e).elim .inl (fun e=>.inr (by omega))) (fun e=>.inr (by omega)),hx.lb.di.bnd,O12.md.trans M' (fun b e=>.inr (by omega)),fun hf=>?_⟩;obtain⟨rfl,rfl⟩:=hfx hf;have m12':Mods (·=q) w10 w12:=m12.mono (fun b _ e=>e.elim id (fun e=>by rw[hf] at e;cases e.1));have hq14:=Q12.mods M' (by omega);have c1:=(R10.carry hBw hx.lb.di ks4 m12' (R10.blk.ne HQ10.out (by decide)) (fun b hb e=>R10.val.ne_blk HQ10.out (by decide) (by rw[hb,e])) (fun b hb e=>R10.old.ne_blk HQ10.out (by decide) (by rw[hb,e]))).keepT M' O12.t5 (by decide) (by decide) (by decide) hS4;have c2:=(R10s.carry hBw hx.lb.di ks4 m12' (R10s.blk.ne HQ10.out (by decide)) (fun b hb e=>R10s.val.ne_blk HQ10.out (by decide) (by rw[hb,e])) (fun b hb e=>R10s.old.ne_blk HQ10.out (by decide) (by rw[hb,e]))).keepT M' O12.t5 (by decide) (by decide) (by decide) hS4;rw[HSH.out] at c1;rw[HSS.out] at c2;have hno:∀b,w10.heap.size<=b->¬S4 b/\¬F4 b:=fun b h=>⟨fun e=>by have:=R10.di.bnd b e;omega,fun e=>by have:=(L10.lb.bnd b e).2;omega⟩
 refine⟨F4,es',_,_,_,_,hes',⟨hq14,c2,⟨_,_,_,_,_,_,hL14⟩,OV.base_le (o1.mods M' (fun k hk=>hbase k (o1.blk_lt k hk).1)) hBw,OV.base_le (o2.mods M' (fun k hk=>hbase k (o2.blk_lt k hk).1)) hBw,(o3.mods M' (fun k hk=>hbase k (o3.blk_in k hk).1)).base_le hBw,⟨(oe.row.mods M' (fun k hk=>hbase k (oe.row.blk_lt k hk).1)).mono hBw,fun y hy=>((oe.ob y hy).mods M' (fun k hk=>hbase k ((oe.ob y hy).blk_in k hk).1)).base_le hBw⟩,hqS3,hqF3,HFP.out.2.1,HFP.out.2.2,fun b hb=>?_,by show B<=q;omega⟩,c1,HFP.out.1,hpp⟩
 rcases hb with hb | hb | hb | hb | ⟨y,hy,hb⟩
 ·exact hno b (o1.blk_lt b hb).1
 ·exact hno b (o2.blk_lt b hb).1
 ·exact hno b (o3.blk_in b hb).1
 ·exact hno b (oe.row.blk_lt b hb).1
 ·exact hno b ((oe.ob y hy).blk_in b hb).1
end
section
variable {B g q ph ps pl:Nat} {S:Nat->Prop} {w w':World}
abbrev storeS(g ph ps pl:Nat)(ht:Nat)(hvt:Int)(i t:Nat)(v l:List Int)(d:List UInt8)(V:Option Addr)(vc:Nat)(L:Option Addr)(lc:Nat)(D:Option Addr)(dc:Nat):Array Value :=
 #[.pointer (some ⟨g,0,none⟩),.int .u64 (ht:Int),.int .i64 hvt,.int .u64 (i:Int),.int .u64 (t:Int),.slice V v.length vc,.slice L l.length lc,.slice D d.length dc,.slice none 0 0,.pointer (some ⟨ph,0,none⟩),.pointer (some ⟨ps,0,none⟩),.pointer (some ⟨pl,0,none⟩),.bool false]
theorem zcs{T:TypeId}{ht:Nat}{hvt:Int}{i t:Nat}{v l:List Int}{d:List UInt8}{V L D:Option Addr}{vc lc dc:Nat}(h:Blk w q T (storeS g ph ps pl ht hvt i t v l d V vc L lc D dc)):w.rangeAt q 1 (stateC ht hvt i t v l d V vc L lc D dc).toList:=h.range 1 _ (by
  intro j x hj
  match j,hj with
  | 0,hj=>simpa using hj
  | 1,hj=>simpa using hj
  | 2,hj=>simpa using hj
  | 3,hj=>simpa using hj
  | 4,hj=>simpa using hj
  | 5,hj=>simpa using hj
  | 6,hj=>simpa using hj
  | 7,hj=>simpa using hj
  | j+8,hj=>simp at hj)
theorem zd7(ht:Nat)(hvt:Int)(i t:Nat)(v l:List Int)(d:List UInt8)(V:Option Addr)(vc:Nat)(L:Option Addr)(lc:Nat)(D:Option Addr)(dc:Nat)
  (hq:Blk w q 72 (storeS g ph ps pl ht hvt i t v l d V vc L lc D dc)) (hv:RV w V (ncells .i64 v)) (hl:RV w L (ncells .i64 l)) (hd:RB w D d) (hn:v.length<=1000000) (hm:l.length<=1000000) (hdl:d.length<=1000000) :
  Calls Tryz.prog 16 #[.pointer (some ⟨q,0,none⟩)] w fun e w'=>∃A ac B bc C cc,e=.returned (.agg (stateC ht hvt i t v l d A ac B bc C cc))/\OV w' w.heap.size 3 A ac (ncells .i64 v)/\OV w' w.heap.size 3 B bc (ncells .i64 l)/\OB w' w.heap.size C cc d/\Below w.heap.size w w':=by
 have hal:Below w.heap.size w (w.alloc (.cells state0 38)):=(Below.refl _ _).alloc (Nat.le_refl _) _;have Z:=qh (Blk.new w state0 38);have RG:=qh (zcs (hq.kept hal));have CL:=qh (xn ht hvt i t v l d V vc L lc D dc _ (hv.below hal) (hl.below hal) (hd.below hal) hn hm hdl);have HAL:=qh hal;clear hal hq hv hl hd;unfold state0 at *;go_enter Tryz.func16,Tryz.ntmps16;go_wp2_with (refine wpList_load_mid rfl 38 (.tmp 8) rfl q 1 rfl (stateC ht hvt i t v l d V vc L lc D dc).toList _ RG.out Tryz.underlying38 rfl zA ?_);refine CL.out.mono ?_;rintro e w1 ⟨A,ac,Bb,bc,C,cc,rfl,o1,o2,o3,b1⟩;have hws:(w.alloc (.cells #[.int .u64 0,.int .i64 0,.int .u64 0,.int .u64 0,.slice none 0 0,.slice none 0 0,.slice none 0 0,.slice none 0 0] 38)).heap.size=w.heap.size+1:=by simp
 rw[hws] at o1 o2 o3;have Y:=qh (Z.out.kept b1);have HB:=qh (zn HAL.out b1);have HO:=qh (And.intro o1 (And.intro o2 o3));clear b1 o1 o2 o3 CL Z HAL RG hws;go_wp2_with (refine wpList_store_row rfl 38 (.tmp 2) (.tmp 10) rfl w.heap.size (stateC ht hvt i t v l d A ac Bb bc C cc) rfl rfl _ _ Y.out zA rfl (by simp[Value.oneCell']) ?_);have Y2:=Y.out.setRow (stateC ht hvt i t v l d A ac Bb bc C cc);refine bodyPost_ret (v:=.agg (stateC ht hvt i t v l d A ac Bb bc C cc)) (results_cell_row rfl _ _ w.heap.size 38 (stateC ht hvt i t v l d A ac Bb bc C cc) (0,0) _ rfl Y2 Tryz.underlying38 rfl zA) rfl ?_;obtain⟨o1,o2,o3⟩:=HO.out;have P1:=zu (k:=w.heap.size) o1 (fun e=>by have:=(o1.own_lt _ e).1;omega) (stateC ht hvt i t v l d A ac Bb bc C cc);have P2:=zu (k:=w.heap.size) o2 (fun e=>by have:=(o2.own_lt _ e).1;omega) (stateC ht hvt i t v l d A ac Bb bc C cc);have P3:=o3.setRow (k:=w.heap.size) (fun e=>by have:=(o3.own_lt w.heap.size (by rw[yh];exact e)).1;omega) (stateC ht hvt i t v l d A ac Bb bc C cc);exact⟨A,ac,Bb,bc,C,cc,rfl,OV.base_le P1 (by omega),OV.base_le P2 (by omega),P3.base_le (by omega),below_setRow HB.out (Nat.le_refl _) _⟩
theorem zd5{cs:Array Value}(hq:Blk w q 72 cs)(h:cs[12]?=some (.bool false)):Calls Tryz.prog 35 #[.pointer (some ⟨q,0,none⟩)] w fun e w'=>e=.returned (.int .i64 0)/\w=w':=by
 have c12:=hq.cell 12 h;clear hq h;go_enter Tryz.func35,Tryz.ntmps35;go_wp2_with fail;go_ret;exact⟨rfl,rfl⟩
theorem storeDid{cs:Array Value}(hq:Blk w q 72 cs)(h:cs[12]?=some (.bool false)):Calls Tryz.prog 37 #[.pointer (some ⟨q,0,none⟩),.int .i64 0] w fun e w'=>e=.returned (.int .i64 0)/\w'=w.setCell ⟨q,12,none⟩ (.bool false):=by
 have c12:=hq.cell 12 h;have f12:=hq.free 12;clear hq h;go_enter Tryz.func37,Tryz.ntmps37;go_wp2_with fail;go_ret;exact⟨rfl,rfl⟩
theorem jZ:Calls Tryz.prog 9 #[] w fun e w'=>∃V,e=.returned (.agg (shotC 0 0 [1,2] [] [] (some V) 2 none 0 none 0))/\OV w' w.heap.size 3 (some V) 2 (ncells .i64 [1,2])/\Below w.heap.size w w':=by
 have hal:Below w.heap.size w (w.alloc (.cells shot0 36)):=(Below.refl _ _).alloc (Nat.le_refl _) _;have hal2:Below w.heap.size w ((w.alloc (.cells shot0 36)).alloc (.cells #[.int .i64 1,.int .i64 2] 3)):=hal.alloc hal.size _;have hb:Below (w.alloc (.cells shot0 36)).heap.size (w.alloc (.cells shot0 36)) ((w.alloc (.cells shot0 36)).alloc (.cells #[.int .i64 1,.int .i64 2] 3)):=(Below.refl _ _).alloc (Nat.le_refl _) _;have Z:=qh ((Blk.new w shot0 36).kept hb);have hws:(w.alloc (.cells shot0 36)).heap.size=w.heap.size+1:=by simp
 have R:OV ((w.alloc (.cells shot0 36)).alloc (.cells #[.int .i64 1,.int .i64 2] 3)) (w.heap.size+1) 3 (some ⟨w.heap.size+1,0,none⟩) 2 (ncells .i64 [1,2]):=by
  have:=World.ownsRow_lit (base:=w.heap.size+1) (e:=3) (size:=1) (w.alloc (.cells shot0 36)) #[.int .i64 1,.int .i64 2] 2 (by rw[hws];exact Nat.le_refl _) (by unfold maxLen;omega) rfl;rw[hws] at this;exact this
 have HR:=qh R;have HB:=qh hal2;clear R hal hal2 hb hws;unfold shot0 at *;go_enter Tryz.func9,Tryz.ntmps9;go_wp2_with (refine wpList_store_row rfl 36 (.tmp 0) (.tmp 3) rfl w.heap.size #[.int .u64 0,.int .u64 0,.slice (some ⟨w.heap.size+1,0,none⟩) 2 2,.slice none 0 0,.slice none 0 0] rfl rfl _ _ Z.out zq rfl (by simp[Value.oneCell']) ?_);have Y2:=Z.out.setRow #[.int .u64 0,.int .u64 0,.slice (some ⟨w.heap.size+1,0,none⟩) 2 2,.slice none 0 0,.slice none 0 0];refine bodyPost_ret (v:=.agg #[.int .u64 0,.int .u64 0,.slice (some ⟨w.heap.size+1,0,none⟩) 2 2,.slice none 0 0,.slice none 0 0]) (results_cell_row rfl _ _ w.heap.size 36 #[.int .u64 0,.int .u64 0,.slice (some ⟨w.heap.size+1,0,none⟩) 2 2,.slice none 0 0,.slice none 0 0] (0,0) _ rfl Y2 Tryz.underlying36 rfl zq) rfl ?_;have P1:=zu (k:=w.heap.size) HR.out (fun e=>by have:=(HR.out.own_lt _ e).1;omega) #[.int .u64 0,.int .u64 0,.slice (some ⟨w.heap.size+1,0,none⟩) 2 2,.slice none 0 0,.slice none 0 0];exact⟨⟨w.heap.size+1,0,none⟩,rfl,OV.base_le P1 (by omega),below_setRow HB.out (Nat.le_refl _) _⟩
theorem hardFile:fileN nmHard 1=[104,97,114,100,46,49]:=by
 have h1:Lib.decDigits 1=[49]:=by rw[Lib.decDigits];simp
 unfold fileN nmHard;rw[h1];rfl
theorem zbf{B p cv co nb:Nat}{V' O':Option Addr}(t5:Nat)(v5:Int)(l:List Int)(V:Option Addr)(vc:Nat)(L:Option Addr)(lc:Nat)(D:Option Addr)(dc:Nat)
  (hq:Blk w q 72 (storeS g p ps pl 0 0 0 0 l [] [] V vc L lc D dc)) (hs:SR B S w p g (openS nmHard Sc.zero) (dsk1 9000) V' cv O' co) (hB:B<=w.heap.size) (hE:SEnv B w) (hqS:¬S q) (hqp:q≠p) (hr:OV w nb 3 V vc (ncells .i64 l)) (hSn:∀b,S b->b<nb) (hpn:p<nb) (hqn:q<nb) (ht:t5<=18446744073709551615) (hv5:hardB v5=true) :
  Calls Tryz.prog 14 #[.pointer (some ⟨q,0,none⟩),.agg #[.int .u64 (t5:Int),.int .i64 v5]] w fun e w'=>e=.returned (.int .i64 0)/\Blk w' q 72 (storeS g p ps pl t5 v5 0 0 l [] [] V vc L lc D dc)/\OV w' nb 3 V vc (ncells .i64 l)/\Mods (fun b=>S b\/b=p\/b=q) w w':=by
 have hal:Below w.heap.size w (w.alloc (.cells #[.int .u64 (t5:Int),.int .i64 v5] 25)):=(Below.refl _ _).alloc (Nat.le_refl _) _;have Z:=qh (Blk.new w #[.int .u64 (t5:Int),.int .i64 v5] 25);have Q0:=hq.kept hal;have AL:=qh (zd5 Q0 rfl);have MH:=qh (msgHard t5 v5 (w.alloc (.cells #[.int .u64 (t5:Int),.int .i64 v5] 25)) ht true hv5);have HQ:=qh Q0;have HR:=qh (hr.below hal);have HSR:=qh (hs.below hal);have HE:=qh (hE.below (hal.mono hB));have HAL:=qh hal;have HN:=qh (And.intro hqS (And.intro hSn hs.di.bnd));have hwq:=hq.lt;have hwp:=hs.blk.lt;clear hal Q0 hq hs hr hE hqS hSn;go_enter Tryz.func14,Tryz.ntmps14;go_wp2_with (go_at_call 35;refine AL.out.mono ?_);rintro e w1 ⟨rfl,rfl⟩;go_wp2_with fail;refine MH.out.mono ?_;rintro e w2 ⟨A,n,c,k,rfl,b2,p1,p2⟩;obtain⟨rfl,rfl,ho⟩:=p2 rfl;have hlen:=jm t5 v5;have hsz2:=(zn HAL.out b2).size;have hsz1:=HAL.out.size;have S2:=HSR.out.below b2;have Q2:=HQ.out.kept b2;have hbl:=ho.blk_in;have SV:=qh (srSave1 S2 (Nat.le_trans hB hsz2) (HE.out.below (b2.mono (Nat.le_trans hB hsz1))) j8 rest1 (hardBytes t5 v5) A c ho.rb (fun _ b hb=>by
  have h1:=(hbl b hb).1;exact⟨fun e=>by have:=HN.out.2.2 b e;omega,by omega⟩) (by omega) (by rw[hardFile];show fget [(walName 0 1,[])] _=none;rw[yu];decide) (by decide) (by
   show(fsize [(walName 0 1,[])]:Int)+(hardBytes t5 v5).length+8<=9000;have:fsize [(walName 0 1,[])]=0:=rfl;rw[this];omega))
 have G2:=qh (And.intro Q2 (And.intro (HR.out.below b2) (zn HAL.out b2)));have Z2:=qh (Z.out.kept b2);have c9:=Q2.cell 9 (v:=.pointer (some ⟨p,0,none⟩)) rfl;clear MH b2 p1 p2 ho hbl S2 Q2 HQ HR HSR Z AL;go_wp2_with fail;refine SV.out.mono ?_;rintro e w3 ⟨rfl,S3,V3,cv3,O3,co3,r3,k3,m3,_⟩;obtain⟨Q2,R2,hb2⟩:=G2.out;have hno:∀b,nb<=b->¬(S b\/b=p):=fun b hb e=>e.elim (fun e=>by have:=HN.out.2.1 b e;omega) (fun e=>by omega)
 have Q3:=Q2.mods m3 (fun e=>e.elim HN.out.1 hqp);have R3:=R2.mods m3 (fun k hk=>hno k (R2.blk_lt k hk).1);have Z3:=qh (Z2.out.mods m3 (fun e=>e.elim (fun e=>by have:=HN.out.2.2 _ e;omega) (fun e=>by omega)));have DD:=qh (storeDid Q3 rfl);have G3:=qh (And.intro Q3 (And.intro R3 ((Mods.of_below (S:=fun b=>S b\/b=p) hb2).then m3)));clear SV Q2 R2 hb2 G2 Q3 R3 r3 k3 m3 Z2 c9;go_wp2_with fail;refine DD.out.mono ?_;rintro e w4 ⟨rfl,hw4⟩;obtain⟨Q3,R3,M3⟩:=G3.out;have Q4:Blk w4 q 72 (storeS g p ps pl 0 0 0 0 l [] [] V vc L lc D dc):=by rw[hw4];exact Q3.setCell 12 (.bool false)
 have R4:OV w4 nb 3 V vc (ncells .i64 l):=by rw[hw4];exact zy R3 (a:=⟨q,12,none⟩) hqn _
 have M4:Mods (fun b=>S b\/b=p\/b=q) w w4:=by
  rw[hw4];exact(M3.mono (T:=fun b=>S b\/b=p\/b=q) (fun b _ e=>e.elim .inl (fun e=>.inr (.inl e)))).setCell ⟨q,12,none⟩ (.inl (.inr (.inr rfl))) _
 have Z4:Blk w4 w.heap.size 25 #[.int .u64 (t5:Int),.int .i64 v5]:=by rw[hw4];exact Z3.out.setCell_other (a:=⟨q,12,none⟩) _ (by simp only;omega)
 have z0:=Z4.cell 0 (v:=.int .u64 (t5:Int)) rfl;have z1:=Z4.cell 1 (v:=.int .i64 v5) rfl;have TH:=qh (yl Q4 1 2 (by simp));have Q5:Hid (Blk (w4.setCells q 1 [.int .u64 (t5:Int),.int .i64 v5]) q 72 (storeS g p ps pl t5 v5 0 0 l [] [] V vc L lc D dc)):=qh (zT Q4 1 (.int .u64 (t5:Int)) (.int .i64 v5));have R5:=qh (zQ R4 (k:=q) hqn 1 (.int .u64 (t5:Int)) (.int .i64 v5));have M5:Hid (Mods (fun b=>S b\/b=p\/b=q) w (w4.setCells q 1 [.int .u64 (t5:Int),.int .i64 v5])):=qh ((M4.setCell ⟨q,1,none⟩ (.inl (.inr (.inr rfl))) (.int .u64 (t5:Int))).setCell ⟨q,1+1,none⟩ (.inl (.inr (.inr rfl))) (.int .i64 v5));clear DD hw4 Q3 R3 M3 G3 Q4 R4 M4 Z4 Z3;go_wp2_with (refine wpList_store_mid rfl 25 (.tmp 35) (.tmp 32) rfl q 1 #[.int .u64 (t5:Int),.int .i64 v5] rfl rfl TH.out yB (by simp[Value.oneCell']) ?_;simp only[];generalize w4.setCells q 1 [.int .u64 (t5:Int),.int .i64 v5]=w5 at *);go_ret;exact⟨rfl,Q5.out,R5.out,M5.out⟩
end
end Go.Proofs.YtobdmlejabjmiaaGreatDoor
