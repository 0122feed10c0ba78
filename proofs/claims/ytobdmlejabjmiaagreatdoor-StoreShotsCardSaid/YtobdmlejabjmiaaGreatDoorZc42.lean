/- Made small by a program. -/
import Derived.Test.YtobdmlejabjmiaaGreatDoorZc41
set_option maxRecDepth 20000
set_option maxHeartbeats 8000000
namespace Go.Proofs.YtobdmlejabjmiaaGreatDoor
open Go.RowKit
def Tells(p:Prop)(w:World)(e:Ending)(w':World):Prop:=∃r:Bool,e=.returned (.bool r)/\(r=true->p)/\Below w.heap.size w w'
section
variable {w w':World}
theorem ze8(A:Option Addr)(c:Nat)(b:List UInt8)(w:World)(h:RB w A b)(hc:b.length<=c/\c<=9223372036854775807)(hl:b.length<=210000000000000)(ok:Bool)(hok:confOk b=ok) :
  Calls Tryz.prog 84 #[.slice A b.length c] w fun e w'=>∃V vc L lc n m,e=.returned (.tuple #[.agg #[.slice V n vc,.slice L m lc],.bool ok])/\Below w.heap.size w w':=by
 have hal:Below w.heap.size w ((w.alloc (.cells conf0 33)).alloc (.cells #[.slice A b.length c,.int .i64 0,.bool false] 219)):=((Below.refl _ _).alloc (Nat.le_refl _) _).alloc (by simp) _;have hws1:(w.alloc (.cells conf0 33)).heap.size=w.heap.size+1:=by simp
 have hws:((w.alloc (.cells conf0 33)).alloc (.cells #[.slice A b.length c,.int .i64 0,.bool false] 219)).heap.size=w.heap.size+2:=by simp
 have z1:=(Blk.new w conf0 33).below (((Below.refl (w.heap.size+1) _).alloc (by simp) (.cells #[.slice A b.length c,.int .i64 0,.bool false] 219))) (Nat.lt_succ_self _);have z2:=Blk.new (w.alloc (.cells conf0 33)) #[.slice A b.length c,.int .i64 0,.bool false] 219;rw[hws1] at z2;have hI:RIn (w.heap.size+1) _ b A c (0,false):=⟨z2,h.below hal,fun h0 k hk e=>by have:=h.blk_lt h0 k hk;omega,⟨by decide,by simp⟩,hc,hl⟩;have CR:=qh (ze7 _ b A c _ _ hI);have H0:=qh (And.intro z1 hal);have HWS:=qh hws;clear h hal z1 z2 hI hws1 hws;unfold conf0 at *;go_enter Tryz.func84,Tryz.ntmps84;go_wp2_with fail;refine CR.out.mono ?_;rintro e w1 ⟨V,vc,L,lc,v,l,s1,rfl,hvl,hll,o1,o2,h1,p1,p5,m1⟩;obtain⟨z1,hal⟩:=H0.out;rw[HWS.out] at o1 o2;have hm1:=m1.size;rw[HWS.out] at hm1;have y1:=z1.mods m1 (by omega);have hb1:=Mods.old hal m1 hal.size (fun i _ e=>by subst e;omega);have hb2:Below w1.heap.size w1 (w1.alloc (.cells #[.slice none 0 0,.slice none 0 0] 33)):=(Below.refl _ _).alloc (Nat.le_refl _) _;have T5:=qh (Blk.new w1 #[.slice none 0 0,.slice none 0 0] 33);have x5:=T5.out.setRow #[.slice V v.length vc,.slice L l.length lc];have hb3:=below_setRow (g:=w1.heap.size) hb2 (Nat.le_refl _) #[.slice V v.length vc,.slice L l.length lc];obtain⟨w2,hw2⟩:∃w2,w2=(w1.alloc (.cells #[.slice none 0 0,.slice none 0 0] 33)).setRow w1.heap.size #[.slice V v.length vc,.slice L l.length lc]:=⟨_,rfl⟩;rw[<-hw2] at x5 hb3;have HW2:=qh hw2.symm;obtain⟨r1,hr1⟩:∃r1,(!s1.2 && decide (s1.1=(b.length:Int)))=r1:=⟨_,rfl⟩;obtain⟨r2,hr2⟩:∃r2,confB v l=r2:=⟨_,rfl⟩;have HK:Hid ((r1 && r2)=ok):=qh (by
  rw[<-hr1,<-hr2,<-hok];cases hs:s1.2 with
  | true =>
   have:(confS b (0,false)).2=true:=by
    cases hc2:(confS b (0,false)).2 with
    | true=>rfl
    | false=>rw[p5 hc2] at hs;cases hs
   unfold confOk;rw[this]
   rfl
  | false =>
   obtain⟨q1,q2,q3⟩:=p1 hs;unfold confOk;rw[<-q1,<-q2,<-q3,hs])
 have G2:=qh (And.intro (h1.below hb3) (And.intro (y1.kept hb3) (And.intro x5 (And.intro (o1.below hb3) (And.intro (o2.below hb3) (hb1.trans (hb3.mono hb1.size)))))));have hsz2:=hb3.size;have hlt2:=x5.lt;have HRR:=qh (And.intro hr1 hr2);clear CR H0 z1 hal o1 o2 h1 p1 p5 m1 hok y1 hb1 hb2 x5 hb3 hw2 hr1 hr2;go_wp2_with (refine wpList_store_row rfl 33 (.tmp 5) (.tmp 10) rfl w1.heap.size #[.slice V v.length vc,.slice L l.length lc] rfl rfl _ _ T5.out zt rfl (by simp[Value.oneCell']) ?_;rw[HW2.out]);cases r1 with
 | true =>
  refine zf (by kernel_rfl) [(0,none),(1,none),(2,some [1]),(3,none),(4,none),(5,some [3,4]),(6,none),(7,some [0]),(8,none)] (by kernel_rfl) (by kernel_rfl) (by decide) ?_;intro wq hwq;have hq:Below w2.heap.size w2 wq:=by rw[hwq];exact(Below.refl _ _).drew
  obtain⟨hI,hy,hx,k1,k2,hB⟩:=G2.out;have WH:=qh (zay _ b A c s1 wq (hI.below hq) true HRR.out.1);have a0:=(hx.kept hq).cell 0 (v:=.slice V v.length vc) rfl;have a1:=(hx.kept hq).cell 1 (v:=.slice L l.length lc) rfl;have GQ:=qh (And.intro (hy.kept hq) (And.intro (hx.kept hq) (And.intro (k1.below hq) (And.intro (k2.below hq) (hB.trans (hq.mono hB.size))))));clear hwq hq hI hy hx k1 k2 hB G2;refine ze [(⟨w1.heap.size,0,none⟩,.slice V v.length vc),(⟨w1.heap.size,1,none⟩,.slice L l.length lc)] ?_;iterate 1 (refine zd ?_)
  refine zh rfl (by rfl) (fun K hK=>?_)
  go_simp
  refine WH.out.mono ?_;rintro e w3 ⟨rfl,b3⟩;obtain⟨hy,hx,k1,k2,hB⟩:=GQ.out;have CO:=qh (ze6 V L vc lc v l w3 (k1.below b3).rv (k2.below b3).rv (by omega) (by omega) r2 HRR.out.2);have c0:=(hx.kept b3).cell 0 (v:=.slice V v.length vc) rfl;have c1:=(hx.kept b3).cell 1 (v:=.slice L l.length lc) rfl;have hl3:w1.heap.size<w3.heap.size:=(hx.kept b3).lt;have G3:=qh (And.intro (hy.kept b3) (hB.trans (b3.mono hB.size)));clear hy hx k1 k2 hB b3 GQ WH a0 a1;refine zg hK ?_;clear hK K;iterate 1 (refine zd ?_)
  refine ze [(⟨w1.heap.size,0,none⟩,.slice V v.length vc),(⟨w1.heap.size,1,none⟩,.slice L l.length lc)] ?_;refine zh rfl (by rfl) (fun K hK=>?_)
  go_simp
  refine CO.out.mono ?_;rintro e w4 ⟨rfl,b4⟩;have G4:=qh (And.intro (G3.out.1.kept b4) (G3.out.2.trans (b4.mono G3.out.2.size)));have e0:=(b4.cell (p:=⟨w1.heap.size,0,none⟩) hl3).trans c0;have e1:=(b4.cell (p:=⟨w1.heap.size,1,none⟩) hl3).trans c1;clear b4 G3 CO c0 c1;refine zg hK ?_;clear hK K;iterate 1 (refine zd ?_)
  refine zh rfl (by rfl) (fun K hK=>?_);refine wp_store_row 33 _ _ rfl w.heap.size #[.slice V v.length vc,.slice L l.length lc] rfl rfl _ _ G4.out.1 zt rfl (by simp[Value.oneCell']) ?_;have Y:=G4.out.1.setRow #[.slice V v.length vc,.slice L l.length lc];have HB5:=qh (below_setRow (g:=w.heap.size) G4.out.2 (Nat.le_refl _) #[.slice V v.length vc,.slice L l.length lc]);clear G4;refine zg hK ?_;clear hK K;iterate 1 (refine zd ?_)
  refine zk ?_;have y0:=Y.cell 0 rfl;have y1:=Y.cell 1 rfl;go_wp2_with fail;refine bodyPost_ret (v:=.tuple #[.agg #[.slice V v.length vc,.slice L l.length lc],.bool r2]) (by simp[results,Tryz.results84,go_sem,y0,y1]) rfl ?_;exact⟨V,vc,L,lc,_,_,by rw[<-HK.out];rfl,HB5.out⟩
 | false =>
  refine zf (by kernel_rfl) [(0,none),(1,none),(2,some [1]),(3,none),(4,none),(5,none),(6,none),(7,some [0,5]),(8,none)] (by kernel_rfl) (by kernel_rfl) (by decide) ?_;intro wq hwq;have hq:Below w2.heap.size w2 wq:=by rw[hwq];exact(Below.refl _ _).drew
  obtain⟨hI,hy,hx,k1,k2,hB⟩:=G2.out;have WH:=qh (zay _ b A c s1 wq (hI.below hq) false HRR.out.1);have a0:=(hx.kept hq).cell 0 (v:=.slice V v.length vc) rfl;have a1:=(hx.kept hq).cell 1 (v:=.slice L l.length lc) rfl;have hlq:w1.heap.size<wq.heap.size:=(hx.kept hq).lt;have GQ:=qh (And.intro (hy.kept hq) (hB.trans (hq.mono hB.size)));clear hwq hq hI hy hx k1 k2 hB G2;refine ze [(⟨w1.heap.size,0,none⟩,.slice V v.length vc),(⟨w1.heap.size,1,none⟩,.slice L l.length lc)] ?_;iterate 1 (refine zd ?_)
  refine zh rfl (by rfl) (fun K hK=>?_)
  go_simp
  refine WH.out.mono ?_;rintro e w3 ⟨rfl,b3⟩;have G4:=qh (And.intro (GQ.out.1.kept b3) (GQ.out.2.trans (b3.mono GQ.out.2.size)));have e0:=(b3.cell (p:=⟨w1.heap.size,0,none⟩) hlq).trans a0;have e1:=(b3.cell (p:=⟨w1.heap.size,1,none⟩) hlq).trans a1;clear b3 GQ WH a0 a1;refine zg hK ?_;clear hK K;iterate 1 (refine zd ?_)
  refine zj ?_;refine zj ?_;iterate 1 (refine zd ?_)
  refine zh rfl (by rfl) (fun K hK=>?_);refine wp_store_row 33 _ _ rfl w.heap.size #[.slice V v.length vc,.slice L l.length lc] rfl rfl _ _ G4.out.1 zt rfl (by simp[Value.oneCell']) ?_;have Y:=G4.out.1.setRow #[.slice V v.length vc,.slice L l.length lc];have HB5:=qh (below_setRow (g:=w.heap.size) G4.out.2 (Nat.le_refl _) #[.slice V v.length vc,.slice L l.length lc]);clear G4;refine zg hK ?_;clear hK K;iterate 1 (refine zd ?_)
  refine zk ?_;have y0:=Y.cell 0 rfl;have y1:=Y.cell 1 rfl;go_wp2_with fail;refine bodyPost_ret (v:=.tuple #[.agg #[.slice V v.length vc,.slice L l.length lc],.bool false]) (by simp[results,Tryz.results84,go_sem,y0,y1]) rfl ?_;exact⟨V,vc,L,lc,_,_,by rw[<-HK.out];rfl,HB5.out⟩
theorem xk(i t:Nat)(k d:Int)(x:List UInt8)(D:Option Addr)(dc:Nat)(w:World)(h:RB w D x)(hc:x.length<=dc/\dc<=9223372036854775807)(r:Bool)(hr:enB i t k d x=r) :
  Calls Tryz.prog 34 #[.agg (enC i t k d x D dc)] w fun e w'=>e=.returned (.bool r)/\Below w.heap.size w w':=by
 have hal:Below w.heap.size w (w.alloc (.cells (enC i t k d x D dc) 44)):=(Below.refl _ _).alloc (Nat.le_refl _) _;have HRB:=qh (h.below hal);have HAL:=qh hal;have Z:=qh (Blk.new w (enC i t k d x D dc) 44);have HR:=qh hr;clear h hal hr;unfold enC at *;by_cases g1:i<1
 ·have HF:Hid (r=false):=qh (by rw[<-HR.out];unfold enB;simp;omega);go_enter Tryz.func34,Tryz.ntmps34;go_wp2_with fail;go_ret;exact⟨by rw[HF.out];rfl,HAL.out⟩
 by_cases g2:4611686018427387904<(i:Int)
 ·have HF:Hid (r=false):=qh (by rw[<-HR.out];unfold enB;simp;omega);go_enter Tryz.func34,Tryz.ntmps34;go_wp2_with fail;go_ret;exact⟨by rw[HF.out];rfl,HAL.out⟩
 by_cases g3:t<1
 ·have HF:Hid (r=false):=qh (by rw[<-HR.out];unfold enB;simp;omega);go_enter Tryz.func34,Tryz.ntmps34;go_wp2_with fail;go_ret;exact⟨by rw[HF.out];rfl,HAL.out⟩
 by_cases g4:4611686018427387904<(t:Int)
 ·have HF:Hid (r=false):=qh (by rw[<-HR.out];unfold enB;simp;omega);go_enter Tryz.func34,Tryz.ntmps34;go_wp2_with fail;go_ret;exact⟨by rw[HF.out];rfl,HAL.out⟩
 by_cases g5:d<0
 ·have HF:Hid (r=false):=qh (by rw[<-HR.out];unfold enB;simp;omega);go_enter Tryz.func34,Tryz.ntmps34;go_wp2_with fail;go_ret;exact⟨by rw[HF.out];rfl,HAL.out⟩
 by_cases g6:1099511627776<d
 ·have HF:Hid (r=false):=qh (by rw[<-HR.out];unfold enB;simp;omega);go_enter Tryz.func34,Tryz.ntmps34;go_wp2_with fail;go_ret;exact⟨by rw[HF.out];rfl,HAL.out⟩
 by_cases g7:4096<x.length
 ·have HF:Hid (r=false):=qh (by rw[<-HR.out];unfold enB;simp;omega);have g7z:(4096:Int)<(x.length:Int):=by omega
  go_enter Tryz.func34,Tryz.ntmps34;go_wp2_with fail;go_ret;exact⟨by rw[HF.out];rfl,HAL.out⟩
 have g7z:¬(4096:Int)<(x.length:Int):=by omega
 have HF:Hid (r=(if k=1 then decide (x.length=0) else if k=3 then confOk x else decide (k=2))):=qh (by
  rw[<-HR.out];unfold enB;rw[decide_eq_true (by omega:1<=i),decide_eq_true (by omega:1<=t),decide_eq_true (by omega:i<=4611686018427387904),decide_eq_true (by omega:t<=4611686018427387904),decide_eq_true (by omega:0<=d),decide_eq_true (by omega:d<=1099511627776),decide_eq_true (by omega:x.length<=4096)];simp)
 by_cases k1:k=1
 ·subst k1;go_enter Tryz.func34,Tryz.ntmps34;go_wp2_with fail;go_ret;exact⟨by rw[HF.out];refine zM ?_;rw[eq0];rfl,HAL.out⟩
 have hk1:(k == 1)=false:=by simpa using k1
 by_cases k3:k=3
 ·subst k3;have TC:=qh (ze8 D dc x _ HRB.out hc (by omega) r (by rw[HF.out];rfl));go_enter Tryz.func34,Tryz.ntmps34;go_wp2_with fail;refine TC.out.mono ?_;rintro e w1 ⟨V,vc,L,lc,n,m,rfl,b1⟩;have HB1:=qh (zn HAL.out b1);have T3:=qh (Blk.new w1 #[.slice none 0 0,.slice none 0 0] 33);clear TC b1;go_wp2_with (refine wpList_store_row rfl 33 (.tmp 3) (.tmp 53) rfl w1.heap.size #[.slice V n vc,.slice L m lc] rfl rfl _ _ T3.out zt rfl (by simp[Value.oneCell']) ?_);go_ret;exact⟨rfl,below_setRow (g:=w1.heap.size) (HB1.out.alloc HB1.out.size _) HB1.out.size _⟩
 have hk3:(k == 3)=false:=by simpa using k3
 go_enter Tryz.func34,Tryz.ntmps34;go_wp2_with fail;go_ret;exact⟨by rw[HF.out,if_neg k1,if_neg k3];refine zM ?_;by_cases e:k=2<;>simp[e],HAL.out⟩
end
end Go.Proofs.YtobdmlejabjmiaaGreatDoor
