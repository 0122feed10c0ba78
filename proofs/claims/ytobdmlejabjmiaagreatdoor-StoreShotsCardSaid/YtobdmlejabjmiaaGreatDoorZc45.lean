/- Made small by a program. -/
import Derived.Test.YtobdmlejabjmiaaGreatDoorZc44
set_option maxRecDepth 20000
set_option maxHeartbeats 8000000
namespace Go.Proofs.YtobdmlejabjmiaaGreatDoor
open Go.RowKit
def keepB(es:List En)(i t:Nat):Bool:=match es[i - 1]? with | some x=>decide (x.term=t) | none=>false
def saveShotD(ss:Sl)(lg:Lg)(D:DSt)(keep:Bool)(i:Nat)(b:List UInt8):Int × DSt :=
 if (saveS ss D b).1≠0 then((saveS ss D b).1,(saveS ss D b).2.2)
 else if keep=true then((dropW lg (saveS ss D b).2.2 (i+1)).1,(dropW lg (saveS ss D b).2.2 (i+1)).2.2)
 else((resetW lg (saveS ss D b).2.2 (i+1)).1,(resetW lg (saveS ss D b).2.2 (i+1)).2.2)
def SShotE(S F:Nat->Prop)(w:World)(g q ps:Nat)(r:Int × DSt)(e:Ending)(w':World):Prop :=
 e=.returned (.int .i64 r.1)/\∃(S':Nat->Prop),DI S' w' g r.2/\(∀b,S' b->S b\/w.heap.size<=b)/\Mods (fun b=>S b\/F b\/b=q\/b=ps) w w'
structure ShA(B:Nat)(S F S4:Nat->Prop)(w:World)(g q ps pl n8:Nat)(lg:Lg)(D4:DSt)(zc oc:Array Value)(E:Option Addr)(es:List ERow)(cs:Array Value)(wx:World):Prop where
 qb:Blk wx q 72 cs
 zb:Blk wx w.heap.size 36 zc
 ob:Blk wx n8 36 oc
 lr:LR B S4 F wx pl g lg D4
 rs:RS wx E 5 (es.map er)
 md:Mods (fun b=>S b\/F b\/b=q\/b=ps) w wx
structure ShK(B:Nat)(S F S4:Nat->Prop)(w:World)(q:Nat)(E:Option Addr):Prop where
 qS:¬S4 q
 qF:¬F q
 qw:q<w.heap.size
 eq:∀b,E.map (·.block)=some b->b≠q
 bw:B<=w.heap.size
 sn:∀b,S4 b->S b\/w.heap.size<=b
 zS:¬(S4 w.heap.size\/F w.heap.size)
section
variable {B g:Nat} {S S' F F' T:Nat->Prop} {w w' w7:World} {z:SP} {x:SV} {D D':DSt}
section
variable {S4:Nat->Prop} {q ps pl n8:Nat} {lg:Lg} {zc oc cs cs':Array Value} {E:Option Addr} {es:List ERow} {wx wy:World}
theorem ShA.below(h:ShA B S F S4 w g q ps pl n8 lg D zc oc E es cs wx)(hb:Below wx.heap.size wx wy):ShA B S F S4 w g q ps pl n8 lg D zc oc E es cs wy:=by
 obtain⟨_,_,_,_,_,_,hx⟩:=h.lr;exact⟨h.qb.kept hb,h.zb.kept hb,h.ob.kept hb,⟨_,_,_,_,_,_,hx.below hb⟩,h.rs.below hb,h.md.below hb⟩
theorem ShA.setq(h:ShA B S F S4 w g q ps pl n8 lg D zc oc E es cs wx)(k:ShK B S F S4 w q E)(m:Mods (·=q) wx wy)(hb:Blk wy q 72 cs'):ShA B S F S4 w g q ps pl n8 lg D zc oc E es cs' wy:=by
 obtain⟨_,_,_,_,_,_,hx⟩:=h.lr;have hB:B<=wx.heap.size:=Nat.le_trans k.bw h.md.size;exact⟨hb,h.zb.mods m (by have:=k.qw;omega),h.ob.mods m (h.ob.ne h.qb (by decide)),⟨_,_,_,_,_,_,hx.mods m (fun b hb e=>k.qF (by rw[<-e];exact hb)) (hx.lb.di.mods m (fun b _ hs e=>k.qS (by rw[<-e];exact hs))) (fun b hb=>.inl hb) hB⟩,zcC h.rs m (fun b hb e=>k.eq b hb e),h.md.trans m (fun b e=>.inl (.inr (.inr (.inl e))))⟩
end
theorem cloneE(A:Option Addr)(c:Nat)(es:List ERow)(w:World)(h:RS w A 5 (es.map er))(hl:es.length<=1000000) :
  Calls Tryz.prog 51 #[.slice A es.length c] w fun e w'=>∃(A':Option Addr) (n c':Nat),e=.returned (.slice A' n c')/\Below w.heap.size w w':=by
 have hnil:=fun w=>Lib.run_eql_slice_nil (P:=Tryz.prog) w 22 TEn A es.length c 0 0 Tryz.underlying22
 rcases A with _ | ad
 ·clear h hl;go_enter Tryz.func51,Tryz.ntmps51;go_wp2_with fail;go_ret;exact⟨none,0,0,rfl,Below.refl _ _⟩
 ·obtain⟨i0,hi0,hz0,hz1,hz2⟩:=info_parts qk;have HR:=qh h;clear h;go_enter Tryz.func51,Tryz.ntmps51;go_wp2_with (at_builtin;refine ya _ rfl _ _ 22 TEn rfl Tryz.underlying22 hi0 hz0 hz1 hz2 rfl (by decide) w.heap.size _ (some ad) 0 c [] (es.map er) rfl (by rw[List.length_map];rfl) (OR.made0 w TEn 5 (Nat.le_refl _)) (HR.out.below ((Below.refl _ _).alloc (Nat.le_refl _) _)) (zez es) (zeA es) (by simp;omega) (by simp;omega) (by simp) ?_;intro ys A' c' w' hys hy1 hy2 hrow hg hA';have hb:Below w.heap.size w w':=((Below.refl _ _).alloc (Nat.le_refl _) _).grown hg (by simp) (by simp);have HB:=qh hb;clear hys hy1 hy2 hrow hg hA' hb);go_ret;exact⟨_,_,_,rfl,HB.out⟩
theorem zae(hst:ST B S F w g z x D)(h0:x.i=0)(hdn:x.dn=false)(hB:B<=w.heap.size)(hE:SEnv B w)(i t:Nat)(v l:List Int)(d:List UInt8)(V:Option Addr)(vc:Nat)(L:Option Addr)(lc:Nat)(Dd:Option Addr)(dc:Nat)
  (hv:RV w V (ncells .i64 v)) (hl:RV w L (ncells .i64 l)) (hd:RB w Dd d) (hrow:∀b,V.map (·.block)=some b\/L.map (·.block)=some b\/Dd.map (·.block)=some b->¬S b/\¬F b/\b≠z.q/\b≠z.ps) (hr:shotB i t v l d.length=true) (hi:1<=i)
  (h1:x.ss.down=false) (h2:x.ss.last+1<18446744073709551616) (h3:D.cnt<=1000) (h4:D.files.length<=1000) (h5:x.ss.old.length<=1000) (hel:x.es.length<=1000) (hch:x.lg.chain) (hfd:x.lg.fineD) (hera:x.lg.era<=1000000000000) (hsn:∀s∈x.lg.segs,s.name.length<=1000) (hsl:x.lg.segs.length<=1000) (hc2:(saveS x.ss D (shotBytes i t v l d)).2.2.cnt<=400000) :
  Calls Tryz.prog 22 #[.pointer (some ⟨z.q,0,none⟩),.agg (shotC i t v l d V vc L lc Dd dc)] w (SShotE S F w g z.q z.ps (saveShotD x.ss x.lg D (keepB (x.es.map Prod.fst) i t) i (shotBytes i t v l d))):=by
 obtain⟨q1,q2,_,q4,q5⟩:=zI hr;obtain⟨q6,q7,_⟩:=zP q1;have n1:=zD q6;have n2:=zD q7;obtain⟨keep,hkeep⟩:∃keep,keep=keepB (x.es.map Prod.fst) i t:=⟨_,rfl⟩;rw[<-hkeep];obtain⟨r,hrr⟩:∃r,r=saveShotD x.ss x.lg D keep i (shotBytes i t v l d):=⟨_,rfl⟩;rw[<-hrr];obtain⟨q,hq⟩:∃q,q=z.q:=⟨_,rfl⟩;obtain⟨ps,hps⟩:∃ps,ps=z.ps:=⟨_,rfl⟩;obtain⟨pl,hpl⟩:∃pl,pl=z.pl:=⟨_,rfl⟩;have hal:Below w.heap.size w (w.alloc (.cells (shotC i t v l d V vc L lc Dd dc) 36)):=(Below.refl _ _).alloc (Nat.le_refl _) _;have hst1:=hst.below hB hal;have Q1:=hst1.blk;rw[hdn,<-hq,<-hpl,<-hps,h0] at Q1;have Z:=qh (Blk.new w (shotC i t v l d V vc L lc Dd dc) 36);have AL:=qh (qR false Q1 rfl);have MS:=qh (zcm i t v l d V vc L lc Dd dc _ (hv.below hal) (hl.below hal) (hd.below hal) (by omega) (by omega) (by omega) (by omega) (by omega) true hr);have HST:=qh hst1;have HAL:=qh hal;have HX:=qh (And.intro h0 (And.intro hdn (And.intro h1 (And.intro h2 (And.intro h3 (And.intro h4 (And.intro h5 (And.intro hel (And.intro hch (And.intro hfd (And.intro hera (And.intro hsn (And.intro hsl hc2)))))))))))));have HROW:=qh (And.intro hv (And.intro hl (And.intro hd hrow)));have HE:=qh hE;have HQ:=qh (And.intro hq (And.intro hps hpl));have HK:=qh hkeep;have HRR:=qh hrr;have hlen:=yL hr;have hwq:=hst.blk.lt;rw[<-hq] at hwq;have HBN:Hid ((∀b,S b\/F b->b<w.heap.size)/\z.ps<w.heap.size):=qh (by
  obtain⟨_,_,_,_,_,_,hx0⟩:=hst.lr;exact⟨fun b e=>e.elim (hx0.lb.di.bnd b) (fun e=>(hx0.lb.bnd b e).2),hst.ss.blk.lt⟩)
 have HBG:Hid (∀b,(S b\/F b\/b=q\/b=ps)->B<=b):=qh (by
  obtain⟨_,_,_,_,_,_,hx0⟩:=hst.lr;intro b e
  rcases e with e | e | e | e
  ·exact hx0.lb.sge b e
  ·exact(hx0.lb.bnd b e).1
  ·rw[e,hq];exact hst.qB
  ·rw[e,hps];exact hst.ss.ge)
 have HCAP:=qh hst.re.row.cap;obtain⟨bs,hbs⟩:∃bs,bs=shotBytes i t v l d:=⟨_,rfl⟩;rw[<-hbs] at MS HRR hlen HX;rw[<-hq,<-hps];have hql:x.es.length<=1000:=hel;obtain⟨n,hn⟩:∃n,n=x.es.length:=⟨_,rfl⟩;rw[<-hn] at Q1 hql;have HN:=qh hn;have Q1H:=qh Q1;clear hal hst hst1 h0 hdn hE hv hl hd hrow hr h1 h2 h3 h4 h5 hel hch hfd hera hsn hsl hc2 hkeep hrr hq hps hpl hbs q1 q6 q7 hn;unfold shotC at *;go_enter Tryz.func22,Tryz.ntmps22;go_wp2_with (first
  | (go_at_call 35;refine AL.out.mono ?_;first | rintro e w1 rfl rfl | rintro e w1 ⟨rfl,rfl⟩)
  | (refine wpList_load_row rfl 36 (.tmp 3) rfl w.heap.size rfl 36 (shotC i t v l d V vc L lc Dd dc) (0,0) _ Z.out Tryz.underlying36 rfl zq ?_))
 refine MS.out.mono ?_;rintro e w1 ⟨A0,k0,c0,e0,rfl,b1,p1,p2⟩;obtain⟨rfl,rfl,ho⟩:=p2 rfl;have hb1:=zn HAL.out b1;have hst1:=HST.out.below (by have:=HAL.out.size;omega) b1;have Q1:=Q1H.out.kept b1;have Z1:=Z.out.kept b1;have hsz1:=hb1.size;have hb2:Below w1.heap.size w1 (w1.alloc (.cells shot0 36)):=(Below.refl _ _).alloc (Nat.le_refl _) _;have BN:=qh (Blk.new w1 shot0 36);have RG:Hid (w1.rangeAt q 3 (shotC 0 x.t x.v x.l x.d z.V z.vc z.L z.lc z.A z.ac).toList):=qh (Q1.range 3 _ (by
  intro j x hj
  match j,hj with
  | 0,hj=>simpa using hj
  | 1,hj=>simpa using hj
  | 2,hj=>simpa using hj
  | 3,hj=>simpa using hj
  | 4,hj=>simpa using hj
  | j+5,hj=>simp at hj))
 have Y2:=BN.out.setRow (shotC 0 x.t x.v x.l x.d z.V z.vc z.L z.lc z.A z.ac);have hB2:=below_setRow (g:=w1.heap.size) hb2 (Nat.le_refl _) (shotC 0 x.t x.v x.l x.d z.V z.vc z.L z.lc z.A z.ac);obtain⟨n8,hn8⟩:∃n8,n8=w1.heap.size:=⟨_,rfl⟩;obtain⟨w2,hw2⟩:∃w2,w2=(w1.alloc (.cells shot0 36)).setRow w1.heap.size (shotC 0 x.t x.v x.l x.d z.V z.vc z.L z.lc z.A z.ac):=⟨_,rfl⟩;rw[<-hw2,<-hn8] at Y2;rw[<-hw2] at hB2;have HW2:=qh hw2.symm;have HN8:=qh hn8.symm;have hn8b:w.heap.size<=n8:=by rw[hn8];exact hsz1
 have Q2:=Q1.kept hB2;have Z2:=Z1.kept hB2;have a0:=Z2.cell 0 (v:=.int .u64 (i:Int)) rfl;have a1:=Z2.cell 1 (v:=.int .u64 (t:Int)) rfl;have o0:=Y2.cell 0 (v:=.int .u64 0) rfl;have o1:=Y2.cell 1 (v:=.int .u64 (x.t:Int)) rfl;have c8:=Q2.cell 8 (v:=.slice z.E n z.ec) rfl;have c10:=Q2.cell 10 (v:=.pointer (some ⟨ps,0,none⟩)) rfl;have hno:=ho.blk_in;have G2:=qh (And.intro (hst1.below (by omega) hB2) (And.intro (hb1.trans (hB2.mono hsz1)) (And.intro (ho.below hB2) (And.intro Q2 (And.intro Z2 Y2)))));have hib:((i:Int) == 0)=false:=by simp;omega
 have hlt0:decide ((i:Int)<0)=false:=by simp
 have hw1:IntKind.u64.wrap (i:Int)=(i:Int):=zU (by omega) (by omega);have hw1':IntKind.u64.wrap ((i:Int) - 0)=(i:Int):=by rw[Int.sub_zero];exact hw1
 have hwn:IntKind.u64.wrap (n:Int)=(n:Int):=zU (by omega) (by omega);have g0:decide ((0:Int)<(i:Int))=true:=by simp;omega
 have g0':decide (0<i)=true:=by simp;omega
 clear hb1 hst1 Q1 Z1 hb2 Y2 hB2 hw2 hn8 Q2 Z2 b1 p1 p2 ho Q1H Z MS HST HAL AL hno;unfold shot0 shotC at *;go_upto_region 6 with(first
  | (refine wpList_load_mid rfl 36 (.tmp 24) rfl q 3 rfl (shotC 0 x.t x.v x.l x.d z.V z.vc z.L z.lc z.A z.ac).toList _ RG.out Tryz.underlying36 rfl zq ?_)
  | (refine wpList_store_row rfl 36 (.tmp 8) (.tmp 25) rfl w1.heap.size (shotC 0 x.t x.v x.l x.d z.V z.vc z.L z.lc z.A z.ac) rfl rfl _ _ BN.out zq rfl (by simp[Value.oneCell']) ?_;rw[HW2.out,HN8.out]))
 simp only[Act.put]
 go_upto_if 65 with fail
 go_cut [9] (fun s9 wx=>s9=.bool keep/\Hid (Below w2.heap.size w2 wx))
 case first =>
  by_cases hin:i<=n
  ·have hix:i - 1<x.es.length:=(by rw[<-HN.out];omega);obtain⟨b,off,hE,hbl,hrg⟩:=G2.out.1.re.el.at_ hix;have hxe:(x.es.map Prod.fst)[i - 1]?=some x.es[i - 1].1:=(by rw[List.getElem?_map,List.getElem?_eq_getElem hix];rfl);generalize x.es[i - 1]=y at hrg hxe;obtain⟨⟨yi,yt,yk,yd,yx⟩,yD,yc⟩:=y;simp only[er] at hrg hxe;have HKE:Hid (keep=decide (yt=t)):=qh (by rw[HK.out,keepB,hxe]);have y1:w2.cell? ⟨b,off+(i - 1)*5+1,none⟩=some (.int .u64 (yt:Int)):=hrg 1 _ rfl;rw[hE] at c8;have hwk1:IntKind.u64.wrap ((i:Int) - 1)=((i - 1:Nat):Int):=by
    rw[show IntKind.u64.wrap ((i:Int) - 1)=((i:Int) - 1) % 18446744073709551616 from rfl];omega
   have hix2:((i - 1:Nat):Int)<(n:Int):=(by omega);have hix3:i - 1<n:=(by omega);have hini:(i:Int)<=(n:Int):=(by omega);clear hrg hxe hE hix;go_wp2_with fail
   go_quiet (fail)
   go_wp2_with fail
   go_meet
   refine⟨?_,qh (zl (Below.refl _ _) _)⟩;rw[HKE.out];congr 1;by_cases h3:yt=t
   ·rw[h3];simp
   ·rw[decide_eq_false h3];simpa using fun e:(yt:Int)=(t:Int)=>h3 (by omega)
  ·have hini:¬(i:Int)<=(n:Int):=(by omega);have HKE:Hid (keep=false):=qh (by
    rw[HK.out,keepB,List.getElem?_eq_none];rw[List.length_map,<-HN.out];omega)
   go_wp2_with fail
   go_meet
   exact⟨by rw[HKE.out],qh (Below.refl _ _)⟩
 case rest =>
  obtain⟨rfl,HB3⟩:=hcut;obtain⟨w3,hw3⟩:∃w3,w3=wc:=⟨_,rfl⟩;subst hw3;obtain⟨hst2,hb2,ho2,Q2,Z2,Y2⟩:=G2.out;have hs2:=hb2.size;have hst3:=hst2.below (by omega) HB3.out;have hb3:=hb2.trans (HB3.out.mono hs2);have ho3:=ho2.below HB3.out;have Q3:=Q2.kept HB3.out;have Z3:=Z2.kept HB3.out;have Y3:=Y2.kept HB3.out;have hs3:=hb3.size;have hs31:w.heap.size<w3.heap.size:=Z3.lt;have hob:=ho3.blk_in;have hws0:(w.alloc (.cells (shotC i t v l d V vc L lc Dd dc) 36)).heap.size=w.heap.size+1:=by simp
  rw[hws0] at hob;obtain⟨h0,hdn,k1,k2,k3,k4,k5,hel,hch,hfd,hera,hsn,hsl,hc2⟩:=HX.out;have sv:=zdp hst3.ss (by omega) (HE.out.below (hb3.mono hB)) k1 bs A0 c0 ho3.rb (fun _ b hb=>by
   have h1:=(hob b hb).1;exact⟨fun e=>by have:=HBN.out.1 b (.inl e);omega,by have:=HBN.out.2;omega⟩) (by omega) k2 k3 k4 k5
  obtain⟨q1,hq1⟩:∃q1,q1=saveS x.ss D bs:=⟨_,rfl⟩;rw[<-hq1] at sv hc2;have hr:r=if q1.1≠0 then(q1.1,q1.2.2) else if keep=true then((dropW x.lg q1.2.2 (i+1)).1,(dropW x.lg q1.2.2 (i+1)).2.2) else((resetW x.lg q1.2.2 (i+1)).1,(resetW x.lg q1.2.2 (i+1)).2.2):=by rw[HRR.out,saveShotD,<-hq1]
  rw[<-HQ.out.2.1] at sv;have SV:=qh sv;have HR1:=qh hr;have HC2:=qh hc2;have G3:=qh (And.intro hst3 (And.intro hb3 (And.intro Q3 (And.intro Z3 Y3))));have c10:=Q3.cell 10 (v:=.pointer (some ⟨ps,0,none⟩)) rfl;clear hst2 hb2 ho2 Q2 Z2 Y2 G2 hs2 hst3 hb3 ho3 Q3 Z3 Y3 hob hws0 h0 hdn k1 k2 k3 k4 k5 hel hch hfd hera hsn hsl hc2 hq1 hr sv HRR HB3 a0 a1 o0 o1 c8 BN RG HW2 HN8;go_wp2_with (go_at_call 38;refine SV.out.mono ?_);rintro e w4 ⟨rfl,S4,V4,cv4,O4,co4,r4,k4,m4,_⟩;obtain⟨hst3,hb3,Q3,Z3,Y3⟩:=G3.out;have hqp:q≠ps:=fun e=>hst3.blk.ne hst3.ss.blk (by decide) (by rw[<-HQ.out.1,<-HQ.out.2.1,e])
  have hqS:¬S q:=by rw[HQ.out.1];exact hst3.qS
  have hqF:¬F q:=by rw[HQ.out.1];exact hst3.qF
  have hqS4:¬S4 q:=fun e=>(k4 q e).elim hqS (fun e=>by omega)
  have hKK:ShK B S F S4 w q z.E:=⟨hqS4,hqF,hwq,fun b hb e=>hst3.re.row.ne_var hst3.blk (by decide) (by rw[hb,e,HQ.out.1]),hB,fun b e=>(k4 b e).imp id (fun e=>by omega),fun e=>e.elim (fun e=>(k4 _ e).elim (fun e=>by have:=HBN.out.1 _ (.inl e);omega) (fun e=>by omega)) (fun e=>by have:=HBN.out.1 _ (.inr e);omega)⟩;have Q4:=Q3.mods m4 (fun e=>e.elim hqS hqp);have DD:=qh (xL q1.1 Q4 rfl);have hsh4:ShA B S F S4 w g q ps pl n8 x.lg q1.2.2 (shotC i t v l d V vc L lc Dd dc) (shotC 0 x.t x.v x.l x.d z.V z.vc z.L z.lc z.A z.ac) z.E x.es (storeL g z.ph ps pl x.ht x.hv 0 x.t x.v x.l x.d z.V z.vc z.L z.lc z.A z.ac z.E n z.ec false) w4:=by
   obtain⟨_,_,_,_,_,_,hx⟩:=hst3.lr;rw[<-HQ.out.2.2] at hx;refine⟨Q4,Z3.mods m4 (fun e=>e.elim (fun e=>by have:=HBN.out.1 _ (.inl e);omega) (fun e=>by have:=HBN.out.2;rw[<-HQ.out.2.1] at this;omega)),Y3.mods m4 (fun e=>e.elim (fun e=>by have:=HBN.out.1 _ (.inl e);omega) (fun e=>Y3.ne hst3.ss.blk (by decide) (by rw[e,HQ.out.2.1]))),⟨_,_,_,_,_,_,hx.mods m4 (fun b hb e=>e.elim (hx.lb.dis b hb) (fun e=>hst3.sF (by rw[<-HQ.out.2.1,<-e];exact hb))) r4.di k4 (by omega)⟩,zcC hst3.re.row.rs m4 (fun b hb e=>e.elim (hst3.own b (.inr (.inr (.inr (.inl hb))))).1 (fun e=>hst3.re.row.ne_var hst3.ss.blk (by decide) (by rw[hb,e,HQ.out.2.1]))),(Mods.of_below (S:=fun b=>S b\/F b\/b=q\/b=ps) hb3).trans m4 (fun b e=>.inl (e.imp id (fun e=>.inr (.inr e))))⟩
  have HS4:=qh hsh4;have HKK:=qh hKK;clear SV r4 k4 m4 hst3 hb3 Q3 Z3 Y3 G3 hqp hqS hqF hqS4 hKK Q4 hsh4 c10;go_wp2_with fail;refine DD.out.mono ?_;rintro e w5 ⟨rfl,hw5⟩;have m5:Mods (·=q) w4 w5:=by
   rw[hw5];exact(Mods.refl (·=q) w4).setCell ⟨q,12,none⟩ (.inl rfl) _
  have hs5:=HS4.out.setq HKK.out m5 (by rw[hw5];exact HS4.out.qb.setCell 12 (.bool (decide (q1.1=11))));have HS5:=qh hs5;clear m5 hs5 hw5 DD HS4;by_cases hq0:q1.1=0
  ·have hqb:(q1.1 == 0)=true:=(by simpa using hq0);have hdn5:decide (q1.1=11)=false:=(by rw[hq0];decide);rw[hdn5] at HS5;have hm5:=HS5.out.md;have hs5:=hm5.size;have hnr:∀b,V.map (·.block)=some b\/L.map (·.block)=some b\/Dd.map (·.block)=some b->¬(S b\/F b\/b=q\/b=ps):=fun b hb e=>by
    have h:=HROW.out.2.2.2 b hb
    rcases e with e | e | e | e
    ·exact h.1 e
    ·exact h.2.1 e
    ·exact h.2.2.1 (by rw[e,HQ.out.1])
    ·exact h.2.2.2 (by rw[e,HQ.out.2.1])
   have CL:=qh (xn 0 0 i t v l d V vc L lc Dd dc w5 (yj HROW.out.1 hm5 (fun _ b hb=>hnr b (.inl hb))) (yj HROW.out.2.1 hm5 (fun _ b hb=>hnr b (.inr (.inl hb)))) (HROW.out.2.2.1.mods hm5 (fun _ b hb=>hnr b (.inr (.inr hb)))) (by omega) (by omega) (by omega));have hr2:r=if keep=true then((dropW x.lg q1.2.2 (i+1)).1,(dropW x.lg q1.2.2 (i+1)).2.2) else((resetW x.lg q1.2.2 (i+1)).1,(resetW x.lg q1.2.2 (i+1)).2.2):=(by rw[HR1.out,if_neg (by rw[hq0];simp)]);have HR2:=qh hr2;clear hm5 hnr hr2 HR1 hdn5 hq0;go_wp2_with (refine wpList_load_row rfl 36 (.tmp 3) rfl w.heap.size rfl 36 (shotC i t v l d V vc L lc Dd dc) (0,0) _ HS5.out.zb Tryz.underlying36 rfl zq ?_);refine CL.out.mono ?_;rintro e w6 ⟨A6,a6,B6,b6,C6,c6,rfl,_,_,_,hb6⟩;have hs6:=HS5.out.below hb6;have TH6:=qh (yl hs6.qb 3 5 (by simp));have m7:Mods (·=q) w6 (w6.setCells q 3 [.int .u64 (i:Int),.int .u64 (t:Int),.slice A6 v.length a6,.slice B6 l.length b6,.slice C6 d.length c6]):=zbB q _ _ _ _ _;have HS7:Hid (ShA B S F S4 w g q ps pl n8 x.lg q1.2.2 (shotC i t v l d V vc L lc Dd dc) (shotC 0 x.t x.v x.l x.d z.V z.vc z.L z.lc z.A z.ac) z.E x.es (storeL g z.ph ps pl x.ht x.hv i t v l d A6 a6 B6 b6 C6 c6 z.E n z.ec false) (w6.setCells q 3 [.int .u64 (i:Int),.int .u64 (t:Int),.slice A6 v.length a6,.slice B6 l.length b6,.slice C6 d.length c6])):=qh (hs6.setq HKK.out m7 (zcO hs6.qb _ _ _ _ _));obtain⟨w7,hw7⟩:∃w7,w7=w6.setCells q 3 [.int .u64 (i:Int),.int .u64 (t:Int),.slice A6 v.length a6,.slice B6 l.length b6,.slice C6 d.length c6]:=⟨_,rfl⟩;rw[<-hw7] at HS7;have HW7:=qh hw7.symm;have hfd:=jG (.int .u64 0) (.int .i64 0) (.int .u64 (i:Int)) (.int .u64 (t:Int)) (.slice A6 v.length a6) (.slice B6 l.length b6) (.slice C6 d.length c6) (.slice none 0 0) w6;have Q7:=HS7.out.qb;have c8:=Q7.cell 8 (v:=.slice z.E n z.ec) rfl;have f8:=Q7.free 8;clear CL hb6 hs6 m7 hw7 HS5 Q7;unfold stateC;have hn1:IntKind.u64.wrap ((i:Int)+1)=((i+1:Nat):Int):=by
    rw[show IntKind.u64.wrap ((i:Int)+1)=((i:Int)+1) % 18446744073709551616 from rfl];omega
   obtain⟨h0,hdn,k1,k2,k3,k4,k5,hel,hch,hfd2,hera,hsn,hsl,_⟩:=HX.out;have hc2:=HC2.out;cases keep with
   | false =>
    have hs8:ShA B S F S4 w g q ps pl n8 x.lg q1.2.2 (shotC i t v l d V vc L lc Dd dc) (shotC 0 x.t x.v x.l x.d z.V z.vc z.L z.lc z.A z.ac) z.E x.es (storeL g z.ph ps pl x.ht x.hv i t v l d A6 a6 B6 b6 C6 c6 none 0 0 false) (w7.setCell ⟨q,8,none⟩ (.slice none 0 0)):=HS7.out.setq HKK.out ((Mods.refl (·=q) w7).setCell ⟨q,8,none⟩ (.inl rfl) _) (HS7.out.qb.setCell 8 (.slice none 0 0));obtain⟨w8,hw8⟩:∃w8,w8=w7.setCell ⟨q,8,none⟩ (.slice none 0 0):=⟨_,rfl⟩;rw[<-hw8] at hs8;have HS8:=qh hs8;have HW8:=qh hw8;obtain⟨q2,hq2⟩:∃q2,q2=resetW x.lg q1.2.2 (i+1):=⟨_,rfl⟩;have HR3:Hid (r=(q2.1,q2.2.2)):=qh (by rw[HR2.out,if_neg (by simp),<-hq2]);have RSX:Hid (∀v,Below w8.heap.size w8 v->∃(Z:List (Sg × Pl)) (Y:List (List UInt8 × Option Addr × Nat)) (SA:Option Addr) (sc:Nat) (RA:Option Addr) (rc:Nat),LX B S4 F v pl g x.lg q1.2.2 Z Y SA sc RA rc/\Calls Tryz.prog 50 #[.pointer (some ⟨pl,0,none⟩),.int .u64 ((i+1:Nat):Int)] v (LDone B S4 F v pl g (.int .i64 q2.1) q2.2.1 q2.2.2)):=qh (fun v hv=>by
     obtain⟨Z,Y,SA,sc,RA,rc,hx⟩:=(HS8.out.below hv).lr;have hmd:=(HS8.out.below hv).md;have h:=zbl hx (Nat.le_trans hB hmd.size) (HE.out.below (Mods.old (Below.refl B w) hmd hB (fun k _ e=>HBG.out k e))) (i+1) (by omega) hera hsn (by omega) (by omega);rw[<-hq2] at h;exact⟨Z,Y,SA,sc,RA,rc,hx,h⟩)
    clear hs8 hw8 HS7 HR2 h0 hdn k1 k2 k3 k4 k5 hel hch hfd2 hera hsn hsl hc2 hq2;go_upto_region 18 with(refine wpList_store_mid rfl 36 (.tmp 97) (.tmp 94) rfl q 3 #[.int .u64 (i:Int),.int .u64 (t:Int),.slice A6 v.length a6,.slice B6 l.length b6,.slice C6 d.length c6] rfl rfl TH6.out zq (by simp[Value.oneCell']) ?_;simp only[];rw[HW7.out]);simp only[Act.put];go_upto_region 20 with fail;rw[<-HW8.out];clear c8 f8 HW8 TH6 HW7;refine zf (by kernel_rfl) [(0,none),(1,none),(2,none),(3,none),(4,none),(5,none),(6,none),(7,none),(8,some [4,7]),(9,some [0]),(10,none)] (by kernel_rfl) (by kernel_rfl) (by decide) ?_;intro wq hwq;have hbq:Below w8.heap.size w8 wq:=(by rw[hwq];exact(Below.refl _ _).drew);have HSq:=qh (HS8.out.below hbq);have c11:=HSq.out.qb.cell 11 (v:=.pointer (some ⟨pl,0,none⟩)) rfl;have z0:=HSq.out.zb.cell 0 (v:=.int .u64 (i:Int)) rfl;obtain⟨Zq,Yq,SAq,scq,RAq,rcq,hx,RS⟩:=RSX.out wq hbq;have RSq:=qh RS;clear hwq hbq hx RS RSX HS8;iterate 4 (refine zd ?_)
    refine ze [(⟨q,11,none⟩,.pointer (some ⟨pl,0,none⟩))] ?_;iterate 1 (refine zd ?_)
    refine ze [(⟨w.heap.size,0,none⟩,.int .u64 (i:Int))] ?_;iterate 1 (refine zd ?_)
    refine zh rfl (by rfl) (fun K hK=>?_)
    go_simp
    refine RSq.out.mono ?_;rintro e w9 ⟨rfl,S9,F9,hlr9,hs9,hf9,m9⟩;have hsq:=HSq.out.md.size;have hqn:¬(S4 q\/F q):=fun e=>e.elim HKK.out.qS HKK.out.qF
    have DD:=qh (xL q2.1 (HSq.out.qb.mods m9 hqn) rfl);have m10:Mods (·=q) w9 (w9.setCell ⟨q,12,none⟩ (.bool (decide (q2.1=11)))):=(Mods.refl (·=q) w9).setCell ⟨q,12,none⟩ (.inl rfl) _;have HF:Hid (SShotE S F w g q ps r (.returned (.int .i64 q2.1)) (w9.setCell ⟨q,12,none⟩ (.bool (decide (q2.1=11))))):=qh (by
     rw[HR3.out];obtain⟨_,_,_,_,_,_,hx9⟩:=hlr9;exact⟨rfl,S9,hx9.lb.di.mods m10 (fun b _ hs e=>by
      subst e;exact(hs9 b hs).elim HKK.out.qS (fun e=>by omega)),fun b hb=>(hs9 b hb).elim (HKK.out.sn b) (fun e=>.inr (by omega)),(HSq.out.md.trans m9 (fun b e=>e.elim (fun e=>(HKK.out.sn b e).imp .inl id) (fun e=>.inl (.inr (.inl e))))).trans m10 (fun b e=>.inl (.inr (.inr (.inl e))))⟩)
    have z9:=HSq.out.zb.mods m9 HKK.out.zS;have z10:=(z9.mods m10 (by omega)).cell 0 (v:=.int .u64 (i:Int)) rfl;clear c11 z0 RSq HSq hlr9 hs9 hf9 m9 hsq hqn m10;have z0:=z9.cell 0 (v:=.int .u64 (i:Int)) rfl;clear z9;refine zg hK ?_;clear hK K;refine zh rfl (by rfl) (fun K hK=>?_)
    go_simp
    refine DD.out.mono ?_;rintro e w10 ⟨rfl,hw10⟩;rw[<-hw10] at HF z10;clear hw10 DD z0;refine zg hK ?_;clear hK K;iterate 1 (refine zd ?_)
    refine zk ?_;go_wp2_with fail;go_ret;exact HF.out
   | true =>
    have hin:i<=n:=by
     have h:=HK.out;unfold keepB at h;cases hx:(x.es.map Prod.fst)[i - 1]? with
     | none=>rw[hx] at h;cases h
     | some y =>
      have:=(List.getElem?_eq_some_iff.1 hx).1;rw[List.length_map,<-HN.out] at this;omega
    have hcap:=HCAP.out.1;rw[List.length_map,<-HN.out] at hcap;obtain⟨eb,eo,hE,hel⟩:=HS7.out.rs.at_ (by rw[List.length_map,<-HN.out];omega);have CEX:Hid (∀(A:Option Addr) (c:Nat) (v:World),Below w7.heap.size w7 v->(A=some ⟨eb,eo+i*5,none⟩\/n=i)->Calls Tryz.prog 51 #[.slice A (n - i) c] v fun e w'=>∃(A':Option Addr) (n c':Nat),e=.returned (.slice A' n c')/\Below v.heap.size v w'):=qh (fun A c v hv hA=>by
     have h1:RS v A 5 ((x.es.drop i).map er):=by
      rcases hA with e | e
      ·rw[e,List.map_drop];have:=(HS7.out.rs.below hv);rw[hE] at this;exact this.drop i
      ·have e2:x.es.drop i=[]:=List.drop_eq_nil_of_le (by rw[<-HN.out];omega);rw[e2];exact RS.nil
     have h2:=cloneE A c (x.es.drop i) v h1 (by rw[List.length_drop,<-HN.out];omega);rw[List.length_drop,<-HN.out] at h2;exact h2)
    rw[hE] at c8;obtain⟨q2,hq2⟩:∃q2,q2=dropW x.lg q1.2.2 (i+1):=⟨_,rfl⟩;have HR3:Hid (r=(q2.1,q2.2.2)):=qh (by rw[HR2.out,if_pos rfl,<-hq2]);have DRX:Hid (∀(cs:Array Value) (vw:World),ShA B S F S4 w g q ps pl n8 x.lg q1.2.2 (shotC i t v l d V vc L lc Dd dc) (shotC 0 x.t x.v x.l x.d z.V z.vc z.L z.lc z.A z.ac) z.E x.es cs vw->Calls Tryz.prog 52 #[.pointer (some ⟨pl,0,none⟩),.int .u64 ((i+1:Nat):Int)] vw (LDone B S4 F vw pl g (.int .i64 q2.1) q2.2.1 q2.2.2)):=qh (fun cs vw hv=>by
     obtain⟨Z,Y,SA,sc,RA,rc,hx⟩:=hv.lr;have h:=walDrop hx (Nat.le_trans hB hv.md.size) (i+1) (by omega) hch hfd2 (by omega);rw[<-hq2] at h;exact h)
    have HINN:=qh (And.intro hin hcap);clear HR2 h0 hdn k1 k2 k3 k4 k5 hel hch hfd2 hera hsn hsl hc2 hq2;go_upto_region 18 with(refine wpList_store_mid rfl 36 (.tmp 97) (.tmp 94) rfl q 3 #[.int .u64 (i:Int),.int .u64 (t:Int),.slice A6 v.length a6,.slice B6 l.length b6,.slice C6 d.length c6] rfl rfl TH6.out zq (by simp[Value.oneCell']) ?_;simp only[];rw[HW7.out]);simp only[Act.put];go_upto_region 21 with fail;clear TH6 HW7;go_cut [] (fun wx=>Hid (∃cs,ShA B S F S4 w g q ps pl n8 x.lg q1.2.2 (shotC i t v l d V vc L lc Dd dc) (shotC 0 x.t x.v x.l x.d z.V z.vc z.L z.lc z.A z.ac) z.E x.es cs wx/\cs[11]?=some (.pointer (some ⟨pl,0,none⟩))/\cs[12]?=some (.bool false)))
    case first =>
     have HIE:Hid (∀a b:Option Addr,b=some ⟨eb,eo+i*5,none⟩->((if z.ec=i then a else b)=some ⟨eb,eo+i*5,none⟩\/n=i)):=qh (fun a b hb=>by
      have h:=HINN.out;by_cases h1:z.ec=i
      ·exact .inr (by omega)
      ·rw[if_neg h1];exact .inl hb)
     refine zf (by kernel_rfl) [(0,none),(1,none),(2,none),(3,none),(4,none),(5,none),(6,none),(7,none),(8,none),(9,none),(10,none),(11,none),(12,some [11]),(13,none),(14,none),(15,none),(16,some [0,1,2,3,4,5,6,7,8,9,10,11,15])] (by kernel_rfl) (by kernel_rfl) (by decide) ?_;intro wq hwq;have hbq:Below w7.heap.size w7 wq:=(by rw[hwq];exact(Below.refl _ _).drew);have HSq:=qh (HS7.out.below hbq);have HBQ:=qh hbq;have c8q:=HSq.out.qb.cell 8 (v:=.slice z.E n z.ec) rfl;rw[hE] at c8q;have z0:=HSq.out.zb.cell 0 (v:=.int .u64 (i:Int)) rfl;have o0:=HSq.out.ob.cell 0 (v:=.int .u64 0) rfl;clear hwq hbq c8 f8;iterate 5 (refine zd ?_)
     refine ze [(⟨q,8,none⟩,.slice (some ⟨eb,eo,none⟩) n z.ec)] ?_;iterate 1 (refine zd ?_)
     refine ze [(⟨w.heap.size,0,none⟩,.int .u64 (i:Int))] ?_;iterate 1 (refine zd ?_)
     refine ze [(⟨n8,0,none⟩,.int .u64 0)] ?_;iterate 2 (refine zd ?_)
     refine zh rfl (by rfl) (fun K hK=>?_)
     go_simp
     refine Calls.mono (CEX.out _ _ wq HBQ.out (HIE.out _ _ rfl)) ?_;rintro e w9 ⟨A9,n9,c9,rfl,b9⟩;have HS9:=qh (HSq.out.below b9);clear c8q z0 o0 HSq HBQ b9;have c8q:=HS9.out.qb.cell 8 (v:=.slice z.E n z.ec) rfl;rw[hE] at c8q;have f8q:=HS9.out.qb.free 8;have z0:=HS9.out.zb.cell 0 (v:=.int .u64 (i:Int)) rfl;have o0:=HS9.out.ob.cell 0 (v:=.int .u64 0) rfl;refine zg hK ?_;clear hK K;iterate 3 (refine zd ?_)
     refine zh rfl (by rfl) (fun K hK=>?_)
     go_simp
     skip
     refine zg hK ?_;clear hK K;refine zk ?_;have HF:Hid (∃cs,ShA B S F S4 w g q ps pl n8 x.lg q1.2.2 (shotC i t v l d V vc L lc Dd dc) (shotC 0 x.t x.v x.l x.d z.V z.vc z.L z.lc z.A z.ac) z.E x.es cs (w9.setCell ⟨q,8,none⟩ (.slice A9 n9 c9))/\cs[11]?=some (.pointer (some ⟨pl,0,none⟩))/\cs[12]?=some (.bool false)):=qh ⟨_,HS9.out.setq HKK.out ((Mods.refl (·=q) w9).setCell ⟨q,8,none⟩ (.inl rfl) _) (HS9.out.qb.setCell 8 (.slice A9 n9 c9)),rfl,rfl⟩;clear HS9 c8q f8q z0 o0;go_wp2_with fail;all_goals (go_meet;exact HF)
    case rest =>
     obtain⟨w8,hw8⟩:∃w8,w8=wc:=⟨_,rfl⟩;subst hw8;obtain⟨cs8,hs8,k11,k12⟩:=hcut.out;have HS8:=qh hs8;have hs8s:=hs8.md.size;clear hcut hs8 CEX c8 f8 HS7;go_upto_region 22 with fail;refine zf (by kernel_rfl) [(0,none),(1,none),(2,none),(3,none),(4,none),(5,none),(6,none),(7,none),(8,some [4,7]),(9,some [0]),(10,none)] (by kernel_rfl) (by kernel_rfl) (by decide) ?_;intro wq hwq;have hbq:Below w8.heap.size w8 wq:=(by rw[hwq];exact(Below.refl _ _).drew);have HSq:=qh (HS8.out.below hbq);have c11:=HSq.out.qb.cell 11 k11;have z0:=HSq.out.zb.cell 0 (v:=.int .u64 (i:Int)) rfl;have RSq:=qh (DRX.out _ _ HSq.out);clear hwq hbq DRX HS8;iterate 4 (refine zd ?_)
     refine ze [(⟨q,11,none⟩,.pointer (some ⟨pl,0,none⟩))] ?_;iterate 1 (refine zd ?_)
     refine ze [(⟨w.heap.size,0,none⟩,.int .u64 (i:Int))] ?_;iterate 1 (refine zd ?_)
     refine zh rfl (by rfl) (fun K hK=>?_)
     go_simp
     refine RSq.out.mono ?_;rintro e w9 ⟨rfl,S9,F9,hlr9,hs9,hf9,m9⟩;have hsq:=HSq.out.md.size;have hqn:¬(S4 q\/F q):=fun e=>e.elim HKK.out.qS HKK.out.qF
     have DD:=qh (xL q2.1 (HSq.out.qb.mods m9 hqn) k12);have m10:Mods (·=q) w9 (w9.setCell ⟨q,12,none⟩ (.bool (decide (q2.1=11)))):=(Mods.refl (·=q) w9).setCell ⟨q,12,none⟩ (.inl rfl) _;have HF:Hid (SShotE S F w g q ps r (.returned (.int .i64 q2.1)) (w9.setCell ⟨q,12,none⟩ (.bool (decide (q2.1=11))))):=qh (by
      rw[HR3.out];obtain⟨_,_,_,_,_,_,hx9⟩:=hlr9;exact⟨rfl,S9,hx9.lb.di.mods m10 (fun b _ hs e=>by
       subst e;exact(hs9 b hs).elim HKK.out.qS (fun e=>by omega)),fun b hb=>(hs9 b hb).elim (HKK.out.sn b) (fun e=>.inr (by omega)),(HSq.out.md.trans m9 (fun b e=>e.elim (fun e=>(HKK.out.sn b e).imp .inl id) (fun e=>.inl (.inr (.inl e))))).trans m10 (fun b e=>.inl (.inr (.inr (.inl e))))⟩)
     have z9:=HSq.out.zb.mods m9 HKK.out.zS;have z10:=(z9.mods m10 (by omega)).cell 0 (v:=.int .u64 (i:Int)) rfl;clear c11 z0 RSq HSq hlr9 hs9 hf9 m9 hsq hqn m10;have z0:=z9.cell 0 (v:=.int .u64 (i:Int)) rfl;clear z9;refine zg hK ?_;clear hK K;refine zh rfl (by rfl) (fun K hK=>?_)
     go_simp
     refine DD.out.mono ?_;rintro e w10 ⟨rfl,hw10⟩;rw[<-hw10] at HF z10;clear hw10 DD z0;refine zg hK ?_;clear hK K;iterate 1 (refine zd ?_)
     refine zk ?_;go_wp2_with fail;go_ret;exact HF.out
  ·have hqb:(q1.1 == 0)=false:=(by simpa using hq0);have HF:Hid (SShotE S F w g q ps r (.returned (.int .i64 q1.1)) w5):=qh (by
    rw[HR1.out,if_pos hq0];obtain⟨_,_,_,_,_,_,hx⟩:=HS5.out.lr;exact⟨rfl,S4,hx.lb.di,HKK.out.sn,HS5.out.md⟩)
   clear HR1 HS5 hq0;go_wp2_with fail;go_ret;exact HF.out
end
end Go.Proofs.YtobdmlejabjmiaaGreatDoor
