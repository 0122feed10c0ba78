/- Made small by a program. -/
import Derived.Test.YtobdmlejabjmiaaGreatDoorZc35
set_option maxRecDepth 20000
set_option maxHeartbeats 8000000
namespace Go.Proofs.YtobdmlejabjmiaaGreatDoor
open Go.RowKit
structure OA(S:Nat->Prop)(i t:Nat)(v l:List Int)(d:List UInt8)(V:Option Addr)(vc:Nat)(L:Option Addr)(lc:Nat)(D:Option Addr)(dc:Nat)(w wr:World):Prop where
 n0:Blk wr w.heap.size 36 (shotC i t v l d V vc L lc D dc)
 t5:Blk wr (w.heap.size+1) 38 state0
 rv:RV wr V (ncells .i64 v)
 rl:RV wr L (ncells .i64 l)
 rd:RB wr D d
 md:Mods S w wr
 sb:∀b,S b->b<w.heap.size
 vs:0<v.length->∀k,V.map (·.block)=some k->k<w.heap.size/\¬S k
 ls:0<l.length->∀k,L.map (·.block)=some k->k<w.heap.size/\¬S k
 ds:0<d.length->∀k,D.map (·.block)=some k->k<w.heap.size/\¬S k
theorem OA.step{S T:Nat->Prop}{i t:Nat}{v l:List Int}{d:List UInt8}{V:Option Addr}{vc:Nat}{L:Option Addr}{lc:Nat}{D:Option Addr}{dc:Nat}{w wr wr':World}(h:OA S i t v l d V vc L lc D dc w wr)(m:Mods T wr wr')(hT:∀b,T b->S b\/w.heap.size+2<=b):OA S i t v l d V vc L lc D dc w wr' where
 n0:=h.n0.mods m (fun e=>(hT _ e).elim (fun e=>by have:=h.sb _ e;omega) (fun e=>by omega))
 t5:=h.t5.mods m (fun e=>(hT _ e).elim (fun e=>by have:=h.sb _ e;omega) (fun e=>by omega))
 rv:=yj h.rv m (fun h0 k hk e=>by
  have h1:=h.vs (by rw[zp] at h0;exact h0) k hk;exact(hT _ e).elim h1.2 (fun e=>by omega))
 rl:=yj h.rl m (fun h0 k hk e=>by
  have h1:=h.ls (by rw[zp] at h0;exact h0) k hk;exact(hT _ e).elim h1.2 (fun e=>by omega))
 rd:=h.rd.mods m (fun h0 k hk e=>by
  have h1:=h.ds h0 k hk;exact(hT _ e).elim h1.2 (fun e=>by omega))
 md:=h.md.trans m (fun b e=>(hT b e).elim .inl (fun e=>.inr (by omega)))
 sb:=h.sb
 vs:=h.vs
 ls:=h.ls
 ds:=h.ds
def nmHard:List UInt8:=[104,97,114,100]
def nmShot:List UInt8:=[115,104,111,116]
theorem j8:BaseOk nmHard:=⟨by decide,by decide⟩
theorem j9:BaseOk nmShot:=⟨by decide,by decide⟩
def OpenYes(B:Nat)(S:Nat->Prop)(w:World)(g:Nat)(i t:Nat)(v l:List Int)(d:List UInt8)(e:Ending)(w':World):Prop :=
 ∃(q ph ps pl nb:Nat) (A:Option Addr) (ac:Nat) (Bb:Option Addr) (bc:Nat) (C:Option Addr) (cc:Nat) (A':Option Addr) (ac':Nat) (B':Option Addr) (bc':Nat) (C':Option Addr) (cc':Nat),e=.returned (.tuple #[.pointer (some ⟨q,0,none⟩),.agg (stateC 0 0 i t v l d A' ac' B' bc' C' cc'),.int .i64 0])/\Blk w' q 72 (storeC g ph ps pl i t v l d A ac Bb bc C cc) /\
  OV w' nb 3 A ac (ncells .i64 v)/\OV w' nb 3 Bb bc (ncells .i64 l)/\OB w' nb C cc d/\w.heap.size<=q/\q<nb/\Mods S w w' /\
  (i=0->∃(S':Nat->Prop) (V:Option Addr) (cv:Nat) (O:Option Addr) (co:Nat),SR B S' w' ph g (openS nmHard Sc.zero) (dsk1 9000) V cv O co/\(∀b,S' b->S b\/w.heap.size<=b)/\¬S' q/\(∀b,S' b->b<nb)/\ph<nb/\q≠ph)
section
variable {B g:Nat} {S:Nat->Prop} {w w':World}
theorem rest0:Rest (dsk0 9000):=⟨rfl,rfl,rfl⟩
theorem zeX(b:List UInt8):scanD b (dsk0 9000)=Sc.zero/\openD b (dsk0 9000)=(0,dsk0 9000):=yT rest0 (fun p hp=>by cases hp)
end
theorem SR.keepT{B p g cv co q:Nat}{S:Nat->Prop}{w w':World}{s:Sl}{D:DSt}{V O:Option Addr}{T:TypeId}{cs:Array Value}(h:SR B S w p g s D V cv O co)(m:Mods (·=q) w w')(hq:Blk w q T cs)(h1:TS≠T)(h2:T≠5)(h3:T≠9)(hS:¬S q):SR B S w' p g s D V cv O co :=
 ⟨h.blk.mods m (fun e=>h.blk.ne hq h1 e),h.di.mods m (fun b _ hs e=>hS (by rw[<-e];exact hs)),h.val.mods m (fun k hk e=>h.val.ne_blk hq h2 (by rw[hk,e])),h.old.mods m (fun k hk e=>h.old.ne_blk hq h3 (by rw[hk,e])),h.ge,h.sge,h.ps,h.vs,h.os,h.bl,h.on⟩
theorem rest1:Rest (dsk1 9000):=⟨rfl,rfl,rfl⟩
theorem names1:namesD (dsk1 9000)=[[119,46,48,46,49]]:=by
 rw[rest1.names,<-yu];rfl
section
variable {B g:Nat} {S:Nat->Prop} {w w':World}
abbrev storeI(g:Nat)(ph ps pl:Option Addr):Array Value :=
 #[.pointer (some ⟨g,0,none⟩),.int .u64 0,.int .i64 0,.int .u64 0,.int .u64 0,.slice none 0 0,.slice none 0 0,.slice none 0 0,.slice none 0 0,.pointer ph,.pointer ps,.pointer pl,.bool false]
theorem zbV(i t:Nat)(v l:List Int)(d:List UInt8)(V:Option Addr)(vc:Nat)(L:Option Addr)(lc:Nat)(Dd:Option Addr)(dc:Nat)
  (hD:DI S w g (dsk0 9000)) (hB:B<=w.heap.size) (hS:∀b,S b->B<=b) (hE:SEnv B w) (hv:RV w V (ncells .i64 v)) (hl:RV w L (ncells .i64 l)) (hd:RB w Dd d)
  (hVS:0<v.length->∀k,V.map (·.block)=some k->¬S k) (hLS:0<l.length->∀k,L.map (·.block)=some k->¬S k) (hDS:0<d.length->∀k,Dd.map (·.block)=some k->¬S k) (hr:shotB i t v l d.length=true) :
  Calls Tryz.prog 8 #[.pointer (some ⟨g,0,none⟩),.agg (shotC i t v l d V vc L lc Dd dc)] w (OpenYes B S w g i t v l d):=by
 obtain⟨q1,q2,_,q4,q5⟩:=zI hr;obtain⟨q6,q7,_⟩:=zP q1;have n1:=zD q6;have n2:=zD q7;have hal:Below w.heap.size w ((w.alloc (.cells (shotC i t v l d V vc L lc Dd dc) 36)).alloc (.cells state0 38)):=((Below.refl _ _).alloc (Nat.le_refl _) _).alloc (by simp) _;have Z1:=(Blk.new w (shotC i t v l d V vc L lc Dd dc) 36).below (((Below.refl (w.heap.size+1) _).alloc (by simp) (.cells state0 38))) (Nat.lt_succ_self _);have hZ2:=Blk.new (w.alloc (.cells (shotC i t v l d V vc L lc Dd dc) 36)) state0 38;have hws:(w.alloc (.cells (shotC i t v l d V vc L lc Dd dc) 36)).heap.size=w.heap.size+1:=by simp
 have hws2:((w.alloc (.cells (shotC i t v l d V vc L lc Dd dc) 36)).alloc (.cells state0 38)).heap.size=w.heap.size+2:=by simp
 rw[hws] at hZ2;have MS:=qh (zcm i t v l d V vc L lc Dd dc _ (hv.below hal) (hl.below hal) (hd.below hal) (by omega) (by omega) (by omega) (by omega) (by omega) true hr);have O0:Hid (OA S i t v l d V vc L lc Dd dc w ((w.alloc (.cells (shotC i t v l d V vc L lc Dd dc) 36)).alloc (.cells state0 38))):=qh
  {n0:=Z1,t5:=hZ2,rv:=hv.below hal,rl:=hl.below hal,rd:=hd.below hal,md:=Mods.of_below hal,sb:=hD.bnd,
   vs:=fun h0 k hk=>⟨zdX hv (by rw[zp];exact h0) k hk,hVS h0 k hk⟩,
   ls:=fun h0 k hk=>⟨zdX hl (by rw[zp];exact h0) k hk,hLS h0 k hk⟩,
   ds:=fun h0 k hk=>⟨hd.blk_lt h0 k hk,hDS h0 k hk⟩ }
 have HD:=qh hD;have HE:=qh hE;have HS:=qh hS;have HWS:=qh hws2;have HAL:=qh hal;have N0:=qh Z1;clear hal Z1 hZ2 hws hws2 hv hl hd hr hD hE hS hVS hLS hDS q1 q6 q7;unfold shotC state0 at *;go_enter Tryz.func8,Tryz.ntmps8;go_wp2_with (refine wpList_load_row rfl 36 (.tmp 3) rfl w.heap.size rfl 36 (shotC i t v l d V vc L lc Dd dc) (0,0) _ N0.out Tryz.underlying36 rfl zq ?_);refine MS.out.mono ?_;rintro e w1 ⟨A0,k0,c0,e0,rfl,b1,p1,p2⟩;obtain⟨rfl,_⟩:=p2 rfl;rw[HWS.out] at b1;have O1:=O0.out.step (Mods.of_below (S:=fun _=>False) (by rw[HWS.out];exact b1)) (fun b e=>e.elim);have hsz1:w.heap.size+2<=w1.heap.size:=by have:=b1.size;rw[HWS.out] at this;exact this
 have hb2:Below w1.heap.size w1 (w1.alloc (.cells (storeI g none none none) 72)):=(Below.refl _ _).alloc (Nat.le_refl _) _;have QN:=Blk.new w1 (storeI g none none none) 72;have O2:=O1.step (Mods.of_below (S:=fun _=>False) hb2) (fun b e=>e.elim);have hbw:Below w.heap.size w w1:=HAL.out.trans (b1.mono (by omega));have HBW:=hbw.trans (hb2.mono (by omega));have D2:=HD.out.below HBW;have E2:=HE.out.below (HBW.mono hB);obtain⟨q,hq⟩:∃q,q=w1.heap.size:=⟨_,rfl⟩;obtain⟨w2,hw2⟩:∃w2,w2=w1.alloc (.cells (storeI g none none none) 72):=⟨_,rfl⟩;rw[<-hw2] at QN O2 D2 E2 HBW;rw[<-hq] at QN hsz1;have hs2:w2.heap.size=q+1:=by rw[hw2,hq];simp
 have SO1:=qh (srOpen D2 HS.out (Nat.le_trans hB HBW.size) E2 j8 rest0 (by decide) (fun p hp=>by cases hp) (fun p hp=>by cases hp) (zeX nmHard));have Q2:=qh QN;have P2:=qh O2;have HB2:=qh HBW;have HQW:=qh (And.intro hq hw2);clear MS b1 p1 p2 O0 O1 QN O2 D2 E2 HBW hb2 hbw HAL N0 HWS hq hw2;unfold nmHard at SO1;go_wp2_with fail;rw[<-HQW.out.2,<-HQW.out.1];refine SO1.out.mono ?_;rintro e w3 ⟨p1,S1,V1,cv1,U1,co1,rfl,r1,k1,m1,j1⟩;have hqS1:¬S1 q:=fun e=>(k1 _ e).elim (fun e=>by have:=HD.out.bnd _ e;omega) (fun e=>by omega)
 have Q3:=Q2.out.mods m1 (fun e=>by have:=HD.out.bnd _ e;omega);have O3:=P2.out.step m1 (fun b e=>.inl e);have M4:Mods (·=q) w3 (w3.setCell ⟨q,9,none⟩ (.pointer (some ⟨p1,0,none⟩))):=Mods.setCell (S:=(·=q)) (Mods.refl (·=q) w3) ⟨q,9,none⟩ (.inl rfl) _;have Q4:Blk (w3.setCell ⟨q,9,none⟩ (.pointer (some ⟨p1,0,none⟩))) q 72 (storeI g (some ⟨p1,0,none⟩) none none):=Q3.setCell 9 (.pointer (some ⟨p1,0,none⟩));have O4:=O3.step M4 (fun b e=>.inr (by omega));have R4:=r1.keepq M4 Q3 hqS1;have c9:=Q3.cell 9 (v:=.pointer none) rfl;have f9:=Q3.free 9;have hm4:=M4.size;have hm1:=m1.size;have BB4:Below B w (w3.setCell ⟨q,9,none⟩ (.pointer (some ⟨p1,0,none⟩))):=Mods.old (Below.refl B w) O4.md hB (fun b _ e=>HS.out b e);obtain⟨w4,hw4⟩:∃w4,w4=w3.setCell ⟨q,9,none⟩ (.pointer (some ⟨p1,0,none⟩)):=⟨_,rfl⟩;rw[<-hw4] at M4 Q4 O4 R4 hm4 BB4;have hsz4:w.heap.size<=w4.heap.size:=O4.md.size;have E4:=HE.out.below BB4;have SO2:=qh (srOpen R4.di R4.sge (Nat.le_trans hB hsz4) E4 j9 rest0 (by decide) (fun p hp=>by cases hp) (fun p hp=>by cases hp) (zeX nmShot));have HK1:Hid (∀b,S1 b->S b\/w.heap.size+2<=b):=qh (fun b e=>(k1 b e).elim .inl (fun e=>.inr (by omega)));have G4:=qh (And.intro Q4 (And.intro O4 (And.intro R4 (And.intro hw4 hqS1))));clear SO1 r1 k1 Q3 O3 M4 Q4 O4 R4 hw4 E4 P2 Q2 hqS1;unfold nmShot at SO2;go_wp2_with fail;rw[<-G4.out.2.2.2.1];refine SO2.out.mono ?_;rintro e w5 ⟨p2,S2,V2,cv2,U2,co2,rfl,r2,k2,m2,j2⟩;obtain⟨Q4,O4,R4,hw4,hqS1⟩:=G4.out;have hq4:=Q4.lt;have hqS2:¬S2 q:=fun e=>(k2 _ e).elim hqS1 (fun e=>by omega)
 have Q5:=Q4.mods m2 hqS1;have O5:=O4.step m2 HK1.out;have R5:=R4.moved (Nat.le_trans hB hsz4) r2.di k2 m2;have M6:Mods (·=q) w5 (w5.setCell ⟨q,10,none⟩ (.pointer (some ⟨p2,0,none⟩))):=Mods.setCell (S:=(·=q)) (Mods.refl (·=q) w5) ⟨q,10,none⟩ (.inl rfl) _;have Q6:Blk (w5.setCell ⟨q,10,none⟩ (.pointer (some ⟨p2,0,none⟩))) q 72 (storeI g (some ⟨p1,0,none⟩) (some ⟨p2,0,none⟩) none):=Q5.setCell 10 (.pointer (some ⟨p2,0,none⟩));have O6:=O5.step M6 (fun b e=>.inr (by omega));have R6:=R5.keepq M6 Q5 hqS2;have R6s:=r2.keepq M6 Q5 hqS2;have c10:=Q5.cell 10 (v:=.pointer none) rfl;have f10:=Q5.free 10;have hm2:=m2.size;have BB6:Below B w (w5.setCell ⟨q,10,none⟩ (.pointer (some ⟨p2,0,none⟩))):=Mods.old (Below.refl B w) O6.md hB (fun b _ e=>HS.out b e);have hm6:=M6.size;obtain⟨w6,hw6⟩:∃w6,w6=w5.setCell ⟨q,10,none⟩ (.pointer (some ⟨p2,0,none⟩)):=⟨_,rfl⟩;rw[<-hw6] at M6 Q6 O6 R6 R6s BB6 hm6;have hsz6:w.heap.size<=w6.heap.size:=O6.md.size;have E6:=HE.out.below BB6;have WO:=qh (zef 9000 (by decide) R6.di (Nat.le_trans hB hsz6) R6.sge E6);have HK2:Hid (∀b,S2 b->S b\/w.heap.size+2<=b):=qh (fun b e=>(k2 b e).elim (HK1.out b) (fun e=>.inr (by omega)));have G6:=qh (And.intro Q6 (And.intro O6 (And.intro R6 (And.intro R6s (And.intro hw6 hqS2)))));clear SO2 r2 k2 Q4 O4 R4 hw4 hqS1 G4 Q5 O5 R5 M6 Q6 O6 R6 R6s hw6 E6 c9 f9 BB4 BB6 hqS2 m1 m2 HK1;go_wp2_with fail;rw[<-G6.out.2.2.2.2.1];refine WO.out.mono ?_;rintro e w7 ⟨p3,S3,F3,rfl,hLR,k3,kf3,m3⟩;obtain⟨Zl,Yl,SA,sc,RA,rc,hx⟩:=hLR;obtain⟨Q6,O6,R6,R6s,hw6,hqS2⟩:=G6.out;have hq6:=Q6.lt;have hqS3:¬S3 q:=fun e=>(k3 _ e).elim hqS2 (fun e=>by omega)
 have hqF3:¬F3 q:=fun e=>by have:=kf3 _ e;omega
 have Q7:=Q6.mods m3 hqS2;have O7:=O6.step m3 HK2.out;have R7:=R6.moved (Nat.le_trans hB hsz6) hx.lb.di k3 m3;have R7s:=R6s.moved (Nat.le_trans hB hsz6) hx.lb.di k3 m3;have M8:Mods (·=q) w7 (w7.setCell ⟨q,11,none⟩ (.pointer (some ⟨p3,0,none⟩))):=Mods.setCell (S:=(·=q)) (Mods.refl (·=q) w7) ⟨q,11,none⟩ (.inl rfl) _;have Q8:Blk (w7.setCell ⟨q,11,none⟩ (.pointer (some ⟨p3,0,none⟩))) q 72 (storeI g (some ⟨p1,0,none⟩) (some ⟨p2,0,none⟩) (some ⟨p3,0,none⟩)):=Q7.setCell 11 (.pointer (some ⟨p3,0,none⟩));have O8:=O7.step M8 (fun b e=>.inr (by omega));have R8:=R7.keepq M8 Q7 hqS3;have R8s:=R7s.keepq M8 Q7 hqS3;have hm3:=m3.size;have L8:=hx.mods M8 (fun b hb e=>hqF3 (by rw[<-e];exact hb)) (hx.lb.di.mods M8 (fun b _ hs e=>hqS3 (by rw[<-e];exact hs))) (fun b hb=>.inl hb) (Nat.le_trans (Nat.le_trans hB hsz6) hm3);have c11:=Q7.cell 11 (v:=.pointer none) rfl;have f11:=Q7.free 11;have hm8:=M8.size;obtain⟨w8,hw8⟩:∃w8,w8=w7.setCell ⟨q,11,none⟩ (.pointer (some ⟨p3,0,none⟩)):=⟨_,rfl⟩;rw[<-hw8] at Q8 O8 R8 R8s L8 hm8;have HW8:=qh hw8.symm;have hb9:Below w8.heap.size w8 (w8.alloc (.cells #[.int .i64 0,.int .i64 0,.int .i64 0] 27)):=(Below.refl _ _).alloc (Nat.le_refl _) _;have hrl8:=RV.lit w8 (ncells .i64 [0,0,0]) 27 (0,0);rw[show w8.heap.size=w7.heap.size from by rw[hw8];simp] at hrl8;have FS:=qh (qT (some ⟨w7.heap.size,0,none⟩) 3 _ hrl8);have D9:=R8.di.below hb9;have NM:=xd D9 (by decide) (fun p hp=>by
  have e:p=(walName 0 1,[]):=by simpa [dsk1,DSt.files] using hp
  subst e;show(walName 0 1).length<=_;rw[yu];decide)
 rw[names1] at NM;have NMH:=qh NM;have HB9:=qh hb9;have HK3:Hid (∀b,S3 b->S b\/w.heap.size+2<=b):=qh (fun b e=>(k3 b e).elim (HK2.out b) (fun e=>.inr (by omega)));have HKF:Hid (∀b,F3 b->w.heap.size+2<=b):=qh (fun b e=>by have:=kf3 b e;omega);have G8:=qh (And.intro Q8 (And.intro O8 (And.intro R8 (And.intro R8s (And.intro L8 (And.intro hqS3 hqF3))))));clear hrl8 WO hx k3 kf3 Q6 O6 R6 R6s hw6 hqS2 G6 Q7 O7 R7 R7s M8 Q8 O8 R8 R8s L8 hw8 c10 f10 D9 NM hb9 hqS3 hqF3 HK2 m3;go_wp2_with fail;rw[HW8.out];refine FS.out.mono ?_;rintro e w9 ⟨rfl,rfl⟩;go_wp2_with fail;refine NMH.out.mono ?_;rintro e w10 ⟨An,cn,rfl,on,b10⟩;have CS:=qh (zbt An cn [[119,46,48,46,49]] [116,46,120] w10 on.rv (by decide) false (by decide));obtain⟨Q8,O8,R8,R8s,L8,hqS3,hqF3⟩:=G8.out;have hb10:Below w8.heap.size w8 w10:=zn HB9.out b10;have hsz8:w.heap.size<=w8.heap.size:=O8.md.size;have O10:=O8.step (Mods.of_below (S:=fun _=>False) hb10) (fun b e=>e.elim);have hsz10:=O10.md.size;have E10:=HE.out.below (Mods.old (Below.refl B w) O10.md hB (fun b _ e=>HS.out b e));have Q10:=Q8.kept hb10;have R10:=R8.below hb10;have q9:=Q10.lt;have LD:=qh (zfn i t v l d V vc L lc Dd dc Q10 R10 (R8s.below hb10) (L8.below hb10) ⟨rfl,rfl,by decide⟩ ⟨rfl,rfl,by decide⟩ hqS3 hqF3 (Nat.le_trans hB hsz10) E10 (by omega) O10.rv O10.rl O10.rd
  (fun h0 k hk e=>by have:=(O10.vs h0 k hk).1;omega) (fun h0 k hk e=>by have:=(O10.ls h0 k hk).1;omega) (fun h0 k hk e=>by have:=(O10.ds h0 k hk).1;omega) (by omega) (by omega) (by omega) (by omega))
 have N10:=qh O10.n0;have LB:=qh (And.intro L8.lb.di.bnd (fun b hb=>(L8.lb.bnd b hb).2));have G10:=qh (And.intro O10 (And.intro R10 (And.intro hqS3 hqF3)));have HQ10:=qh Q10;have HS10:=qh hb10.size;clear on b10 NMH hb10 O10 E10 Q10 R10 Q8 O8 R8 R8s L8 hqS3 hqF3 G8 HB9 FS c11 f11;go_wp2_with (first
  | (go_at_call 29;refine CS.out.mono ?_;rintro e w11 ⟨rfl,h11⟩;rw[h11];clear h11 w11)
  | (refine wpList_load_row rfl 36 (.tmp 3) rfl w.heap.size rfl 36 (shotC i t v l d V vc L lc Dd dc) (0,0) _ N10.out Tryz.underlying36 rfl zq ?_))
 refine LD.out.mono ?_;rintro e w12 ⟨A,ac,Bb,bc,C,cc,rfl,Q12,o1,o2,o3,m12⟩;obtain⟨O10,R10,hqS3,hqF3⟩:=G10.out;have hq10:q<w10.heap.size:=q9;have O12:=O10.step m12 (fun b e=>e.elim (fun e=>.inr (by omega)) (fun e=>e.2.elim (HK3.out b) (fun e=>.inr (HKF.out b e))));have hsz12:=m12.size;have Q12h:=qh Q12;have rg:w12.rangeAt q 1 (stateC 0 0 i t v l d A ac Bb bc C cc).toList:=Q12.range 1 _ (by
  intro j x hj
  match j,hj with
  | 0,hj=>simpa using hj
  | 1,hj=>simpa using hj
  | 2,hj=>simpa using hj
  | 3,hj=>simpa using hj
  | 4,hj=>simpa using hj
  | 5,hj=>simpa using hj
  | 6,hj=>simpa using hj
  | 7,hj=>simpa using hj
  | j+8,hj=>simp at hj)
 have RG:=qh rg;have CL:=qh (xn 0 0 i t v l d A ac Bb bc C cc w12 o1.rv o2.rv o3.rb (by omega) (by omega) (by omega));have T12:=qh O12.t5;have G12:=qh (And.intro O12 (And.intro Q12 (And.intro o1 (And.intro o2 (And.intro o3 (And.intro m12 (And.intro R10 (And.intro hqS3 hqF3))))))));clear O10 O12 R10 hqS3 hqF3 G10 Q12 o1 o2 o3 m12 rg LD N10 CS;go_wp2_with (refine wpList_load_mid rfl 38 (.tmp 82) rfl q 1 rfl (stateC 0 0 i t v l d A ac Bb bc C cc).toList _ RG.out Tryz.underlying38 rfl zA ?_);refine CL.out.mono ?_;rintro e w13 ⟨A',ac',B',bc',C',cc',rfl,o1',o2',o3',b13⟩;have T13:=qh (T12.out.kept b13);have B13:=qh b13;clear CL o1' o2' o3' b13 RG T12 Q12h;go_wp2_with (refine wpList_store_row rfl 38 (.tmp 5) (.tmp 84) rfl (w.heap.size+1) (stateC 0 0 i t v l d A' ac' B' bc' C' cc') rfl rfl _ _ T13.out zA rfl (by simp[Value.oneCell']) ?_);have Y:=T13.out.setRow (stateC 0 0 i t v l d A' ac' B' bc' C' cc');have y0:=Y.cell 0 rfl;have y1:=Y.cell 1 rfl;have y2:=Y.cell 2 rfl;have y3:=Y.cell 3 rfl;have y4:=Y.cell 4 rfl;have y5:=Y.cell 5 rfl;have y6:=Y.cell 6 rfl;have y7:=Y.cell 7 rfl;refine bodyPost_ret (v:=.tuple #[.pointer (some ⟨q,0,none⟩),.agg (stateC 0 0 i t v l d A' ac' B' bc' C' cc'),.int .i64 0]) (by simp[results,Tryz.results8,go_sem,y0,y1,y2,y3,y4,y5,y6,y7]) rfl ?_;obtain⟨O12,Q12,o1,o2,o3,m12,R10,hqS3,hqF3⟩:=G12.out;have hn1q:w.heap.size+1<w10.heap.size:=by omega
 have M':Mods (·=w.heap.size+1) w12 (w13.setRow (w.heap.size+1) (stateC 0 0 i t v l d A' ac' B' bc' C' cc')):=(Mods.of_below (S:=(·=w.heap.size+1)) B13.out).then ((Mods.refl (·=w.heap.size+1) w13).setRow (w.heap.size+1) (.inl rfl) _)
 refine⟨q,p1,p2,p3,w10.heap.size,A,ac,Bb,bc,C,cc,A',ac',B',bc',C',cc',rfl,Q12.mods M' (by omega),o1.mods M' (fun k hk e=>by have:=(o1.blk_lt k hk).1;omega),o2.mods M' (fun k hk e=>by have:=(o2.blk_lt k hk).1;omega),o3.mods M' (fun k hk e=>by have:=(o3.blk_in k hk).1;omega),by omega,hq10,O12.md.trans M' (fun b e=>.inr (by omega)),fun h0=>?_⟩;have R12:=R10.keepq (m12.mono (T:=(·=q)) (fun b _ e=>e.elim id (fun e=>absurd h0 e.1))) HQ10.out hqS3;have R13:=R12.keepT M' O12.t5 (by decide) (by decide) (by decide) (fun e=>(HK3.out _ e).elim (fun e=>by have:=HD.out.bnd _ e;omega) (fun e=>by omega));exact⟨S3,_,_,_,_,R13,fun b e=>(HK3.out b e).elim .inl (fun e=>.inr (by omega)),hqS3,fun b e=>Nat.lt_of_lt_of_le (LB.out.1 b e) HS10.out,R10.blk.lt,(R10.blk.ne HQ10.out (by decide)).symm⟩
end
end Go.Proofs.YtobdmlejabjmiaaGreatDoor
