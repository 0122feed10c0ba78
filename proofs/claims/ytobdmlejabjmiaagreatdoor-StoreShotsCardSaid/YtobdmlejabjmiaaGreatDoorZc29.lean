/- Made small by a program. -/
import Derived.Test.YtobdmlejabjmiaaGreatDoorZc28
set_option maxRecDepth 20000
set_option maxHeartbeats 8000000
namespace Go.Proofs.YtobdmlejabjmiaaGreatDoor
open Go.RowKit
theorem insOne(X:Option Addr)(n:Int)(c:Nat)(k:Nat)(f:Value)(w:World)(hn:n<=1) :
  Calls Tryz.prog 179 #[.slice X k c,.int .i64 0,.int .i64 n,f] w fun e w'=>e=.returned (.tuple #[])/\w'=w:=by
 go_enter Tryz.func179,Tryz.ntmps179;have h1:¬(1:Int)<n:=by omega
 go_wp2_with fail;go_loopw [8] (fun s8 wr=>s8=.int .i64 1/\wr=w) (fun _ _=>0)
 case atStart=>exact⟨rfl,by first | rfl | trivial⟩
 case round =>
  obtain⟨rfl,rfl⟩:=hrel;go_wp2_with fail;exact bodyPost_end (v:=.tuple #[]) (by kernel_rfl) rfl ⟨rfl,rfl⟩
theorem pdqOne(X:Option Addr)(n:Int)(c:Nat)(k:Nat)(l:Int)(f:Value)(w:World)(h0:0<=n)(hn:n<=1) :
  Calls Tryz.prog 130 #[.slice X k c,.int .i64 0,.int .i64 n,.int .i64 l,f] w fun e w'=>e=.returned (.tuple #[])/\w'=w:=by
 have I1:=qh (insOne X n c k f w hn);go_enter Tryz.func130,Tryz.ntmps130;have hw:IntKind.i64.wrap (n - 0)=n:=by rw[Int.sub_zero];exact IntWalk.i64_in _ (by omega)
 have hw2:IntKind.i64.wrap n=n:=IntWalk.i64_in _ (by omega);have h12:n<=12:=by omega
 go_wp2_with fail;go_loopw [1,2] (fun s1 s2 wr=>s1=.int .i64 0/\s2=.int .i64 n/\wr=w) (fun _ _ _=>0)
 case atStart=>exact⟨rfl,rfl,by first | rfl | trivial⟩
 case round =>
  obtain⟨rfl,rfl,rfl⟩:=hrel;go_wp2_with (go_at_call 179;refine I1.out.mono ?_);first | rintro e w2 ⟨rfl,rfl⟩ | rintro e w2 rfl rfl
  go_wp2_with fail;exact bodyPost_ret (v:=.tuple #[]) (by kernel_rfl) rfl ⟨rfl,rfl⟩
theorem sortOne(X:Option Addr)(n:Nat)(c:Nat)(f:Value)(w:World)(hn:n<=1) :
  Calls Tryz.prog 66 #[.slice X n c,f] w fun e w'=>e=.returned (.tuple #[])/\w'=w:=by
 have hx:((n:Int)).toNat<18446744073709551616:=by omega
 have L1:=qh (Tryz.bits_Len (n:Int) w (by omega) (by omega));have P1:Hid (∀l:Int,Calls Tryz.prog 130 #[.slice X n c,.int .i64 0,.int .i64 (n:Int),.int .i64 l,f] w fun e w'=>e=.returned (.tuple #[])/\w'=w):=qh (fun l=>pdqOne X (n:Int) c n l f w (by omega) (by omega));go_enter Tryz.func66,Tryz.ntmps66;have hw:IntKind.u64.wrap (n:Int)=(n:Int):=IntWalk.u64_in _ (by omega);go_wp2_with (go_at_call 131;refine L1.out.mono ?_);first | rintro e w2 ⟨rfl,rfl⟩ | rintro e w2 rfl rfl
 go_wp2_with (go_at_call 130;refine(P1.out _).mono ?_);first | rintro e w2 ⟨rfl,rfl⟩ | rintro e w2 rfl rfl
 go_wp2_with fail;exact bodyPost_end (v:=.tuple #[]) (by kernel_rfl) rfl ⟨rfl,rfl⟩
section
variable {B p g sc rc:Nat} {S F:Nat->Prop} {w w':World} {l:Lg} {D:DSt} {Z:List (Sg × Pl)} {Y:List (List UInt8 × Option Addr × Nat)} {SA RA:Option Addr} {s:Sg} {z:Pl}
theorem Mods.lift{T:Nat->Prop}(m:Mods T w w')(hT:∀b,T b->B<=b)(hB:B<=w.heap.size):Below B w w' :=
 ⟨m.os,m.tape,m.output,m.size,fun i hi=>m.block i (Nat.lt_of_lt_of_le hi hB) (fun t=>by have:=hT i t;omega)⟩
theorem lit_of{n:Nat}{v:World}(_h:Below n w v)(hB:B<=v.heap.size)(x:Value)(T:TypeId):OV (v.alloc (.cells #[x] T)) B T (some ⟨v.heap.size,0,none⟩) 1 [x]:=OV.lit1 v hB x T
theorem zc9{n:Nat}{v:World}(_:Below n w v)(cs:Array Value)(T:TypeId):Blk (v.alloc (.cells cs T)) v.heap.size T cs:=Blk.new v cs T
theorem zdv{v:World}(h:Below w.heap.size w v)(o:Obj):∃v',v'=v.alloc o/\Below w.heap.size w v'/\Below v.heap.size v v'/\v.heap.size+1<=v'.heap.size:=⟨_,rfl,h.alloc h.size o,(Below.refl _ _).alloc (Nat.le_refl _) o,by simp⟩
theorem jM{n:Nat}{v:World}(_:Below n w v):∃k,k=v.heap.size:=⟨_,rfl⟩
theorem LX.addNew{g8 c8 n n0:Nat}{w8:World}(h:LX B S F w p g l D Z Y SA sc RA rc)(hs:SgAt w B s z)(hz:n0<=z.q/\n0<=z.m)(hB:B<=n0)(hS0:∀b,S b->b<n0)(hF0:∀b,F b->b<n0)(hn0:n0<=w.heap.size)
  (hg:w.grownBy w8 (SA.map (·.block))) (ho:OV w8 B TP (some ⟨g8,0,none⟩) c8 (Z.map ptrV++[ptrV (s,z)])) (hat:SA.map (·.block)=some g8\/g8=w.heap.size) (hn:n=l.segs.length+1) :
  LX B S (fun b=>F b\/(n0<=b/\b<w8.heap.size)) (w8.setCell ⟨p,2,none⟩ (.slice (some ⟨g8,0,none⟩) n c8)) p g { l with segs:=l.segs++[s] } D (Z++[(s,z)]) Y (some ⟨g8,0,none⟩) c8 RA rc:=by
 have hw8:w.heap.size<=w8.heap.size:=hg.size;have hg8:=ho.blk_lt g8 rfl;have hl:=hs.lt;refine h.addSeg (Nat.le_trans hB hn0) hs hg ho hat hn (fun b hb=>.inl hb) (fun b hb=>?_) (fun b hb=>?_) ?_ ⟨.inr ⟨hz.1,by omega⟩,.inr ⟨hz.2,by omega⟩⟩ (fun y hy e=>?_) (fun y hy e=>?_)
 ·rcases hb with hb | hb
  ·exact h.lb.dis b hb
  ·intro hs;have:=hS0 b hs;omega
 ·rcases hb with hb | hb
  ·have:=h.lb.bnd b hb;exact⟨this.1,by omega⟩
  ·exact⟨by omega,hb.2⟩
 ·rcases hat with e | e
  ·exact .inl (h.lb.fs _ e)
  ·exact .inr ⟨by omega,hg8.2⟩
 ·have:=hF0 _ (h.lb.fq y hy).1;omega
 ·have:=hF0 _ (h.lb.fq y hy).2;omega
theorem walLoad0(h:LX B S F w p g l D Z Y SA sc RA rc)(hs:l.segs=[])(hB:B<=w.heap.size)(hE:SEnv B w)(hcnt:D.cnt<=1000)(hera:l.era<=1000000000000)(X:Option Addr)(cx:Nat) :
  Calls Tryz.prog 69 #[.pointer (some ⟨p,0,none⟩),.slice X 0 cx] w (LDone B S F w p g (.int .i64 (loadF [] l true D).1) (loadF [] l true D).2.1 (loadF [] l true D).2.2):=by
 have hZ:Z=[]:=by
  have:=h.lens.1;rw[hs] at this;exact List.eq_nil_of_length_eq_zero this
 subst hZ;obtain⟨nm,hnm⟩:∃nm,nm=walName l.era 1:=⟨_,rfl⟩;have hnl:nm.length<=43:=by rw[hnm];exact xA (by omega) (by omega)
 obtain⟨q1,hq1⟩:∃q1,q1=putW D nm 0 []:=⟨_,rfl⟩;have hc1:q1.2.cnt<=1001:=by
  rw[hq1];have:=zV D ⟨1,nm,0,[]⟩ ((0:Nat):Int);have e:putW D nm 0 []=changeD D ⟨1,nm,0,[]⟩ ((0:Nat):Int):=rfl;rw[e];omega
 obtain⟨q,hq⟩:∃q,q=loadF [] l true D:=⟨_,rfl⟩;have HQ:Hid (q=if q1.1≠0 then(q1.1,l,q1.2) else((syncD q1.2).1,{ l with segs:=[⟨nm,1,[0]⟩] },(syncD q1.2).2)):=qh (by rw[hq,hq1,hnm];unfold loadF;rw[if_pos hs]);rw[<-hq];have HX:=qh h;have HE:=qh hE;have HS:=qh hs;have HNM:=qh hnm;have HQ1:=qh hq1;have c2:w.cell? ⟨p,2,none⟩=some (.slice SA 0 sc):=by
  have e:w.cell? ⟨p,2,none⟩=some (.slice SA l.segs.length sc):=h.blk.cell 2 rfl;rw[hs] at e;exact e
 clear h hE hs hq hq1 hnm;go_enter Tryz.func69,Tryz.ntmps69;go_wp2_with fail;go_loopw [19] (fun s19 wr=>s19=.int .i64 0/\wr=w) (fun _ _=>0)
 case atStart=>exact⟨rfl,by first | rfl | trivial⟩
 case round =>
  obtain⟨rfl,rfl⟩:=hrel;go_upto_region 28 with fail;clear c2;refine zf (by kernel_rfl) [(0,none),(1,none),(2,none),(3,none),(4,none),(5,some [4]),(6,some [3]),(7,none)] (by kernel_rfl) (by kernel_rfl) (by decide) ?_;intro wq hwq;have hBq:Below wr.heap.size wr wq:=by rw[hwq];exact(Below.refl _ _).drew
  have HXQ:=qh (HX.out.below hBq);have HBQ:=qh hBq;have hszq:wr.heap.size<=wq.heap.size:=hBq.size;have HEQ:=qh (HE.out.below (hBq.mono hB));have y0:wq.cell? ⟨p,0,none⟩=some (.pointer (some ⟨g,0,none⟩)):=HXQ.out.blk.cell 0 rfl;clear hwq hBq HE;iterate 3 (refine zd ?_)
  refine ze [(⟨p,0,none⟩,.pointer (some ⟨g,0,none⟩))] ?_;iterate 1 (refine zd ?_)
  refine zh rfl (by rfl) (fun K hK=>?_)
  go_simp
  refine(jA HXQ.out.blk l.era rfl (by omega) 1 (by omega) HEQ.out (Nat.le_trans hB hszq)).mono ?_;rintro e w5 ⟨rfl,hb5⟩;rw[<-HNM.out];have HB5:=qh (HBQ.out.trans (hb5.mono hszq));have HX5:=qh (HX.out.below HB5.out);have hsz5:wr.heap.size<=w5.heap.size:=HB5.out.size;have HE5:=qh (HEQ.out.below (hb5.mono (Nat.le_trans hB hszq)));clear y0 hb5 HXQ HBQ HEQ;have y0:w5.cell? ⟨p,0,none⟩=some (.pointer (some ⟨g,0,none⟩)):=HX5.out.blk.cell 0 rfl;refine zg hK ?_;clear hK K;refine zh rfl (by rfl) (fun K hK=>?_)
  go_simp
  refine(jW nm 0 [] none 0 HX5.out.lb.di RB.nil (by simp) (by omega) (by omega) (by omega) (by simp)).mono ?_;rintro e w6 ⟨rfl,hd6,m6⟩;rw[show changeD D ⟨1,nm,((0:Int)).toNat,[]⟩ (0:Int)=q1 from by rw[HQ1.out];rfl] at hd6 ⊢;have HX6:=qh (HX5.out.disk (Nat.le_trans hB hsz5) hd6 m6);have HM6:Hid (Mods (fun b=>S b\/F b) wr w6):=qh ((Mods.of_below HB5.out).trans m6 (fun i hi=>.inl (.inl hi)));have HNS6:Hid (∀b,Sx S w5 w6 b->S b\/wr.heap.size<=b):=qh (fun b hb=>hb.elim .inl (fun hb=>.inr (Nat.le_trans hsz5 hb.1)));have HE6:=qh (HE5.out.below (m6.lift HX5.out.lb.sge (Nat.le_trans hB hsz5)));clear hd6 m6 y0 HX5 HB5;have y0:w6.cell? ⟨p,0,none⟩=some (.pointer (some ⟨g,0,none⟩)):=HX6.out.blk.cell 0 rfl;refine zg hK ?_;clear hK K;iterate 1 (refine zd ?_)
  refine zk ?_;clear y0;have hsz6:wr.heap.size<=w6.heap.size:=HM6.out.size;generalize Sx S w5 w6=S6 at *;by_cases hq0:q1.1=0;rotate_left
  ·have hqb:(q1.1 == 0)=false:=(by simpa using hq0);have HF:Hid (LDone B S F wr p g (.int .i64 q.1) q.2.1 q.2.2 (.returned (.int .i64 q1.1)) w6):=qh (by
    have e:=HQ.out;rw[if_pos hq0] at e;rw[e];exact⟨rfl,_,F,⟨_,_,_,_,_,_,HX6.out⟩,HNS6.out,fun b hb=>.inl hb,HM6.out⟩)
   clear HQ HX HX6 HM6 HNS6 HQ1 HE6;go_wp2_with fail;go_ret;exact HF.out
  ·have hqb:(q1.1 == 0)=true:=(by simpa using hq0);have HQ2:Hid (q=((syncD q1.2).1,{ l with segs:=[⟨nm,1,[0]⟩] },(syncD q1.2).2)):=qh (by
    have e:=HQ.out;rw[if_neg (by rw[hq0];simp)] at e;exact e)
   clear HQ HQ1 HX;go_upto_region 31 with fail;obtain⟨i0,hi0,hz0,hz1,hz2⟩:=info_parts zcM;have HI:=qh (And.intro hi0 (And.intro hz0 (And.intro hz1 hz2)));clear hi0 hz0 hz1 hz2;refine jb (by kernel_rfl) [0,1,2,3,4,5] (6,[5],[(7,some []),(8,none),(9,some [8]),(10,some []),(11,some [4]),(12,none),(13,none),(14,some [0,1,2,3,4,5,8,13])]) (7,[],[(6,some [5]),(8,none),(9,some [8]),(10,some []),(11,some [4]),(12,none),(13,none),(14,some [0,1,2,3,4,5,8,13])]) (by kernel_rfl) (by kernel_rfl) (by decide) (by decide) ?_;intro wq hwq;have hBq:Below w6.heap.size w6 wq:=(by rw[hwq];exact(Below.refl _ _).drew);have HXQ:=qh (HX6.out.below hBq);have HMQ:Hid (Mods (fun b=>S b\/F b) wr wq):=qh (HM6.out.below hBq);have hszq:w6.heap.size<=wq.heap.size:=hBq.size;have HEQ:=qh (HE6.out.below (hBq.mono (Nat.le_trans hB hsz6)));have hBq2:B<=wq.heap.size:=(by omega);have Y2:Hid (∀v,Below wq.heap.size wq v->v.cell? ⟨p,2,none⟩=some (.slice SA 0 sc)):=qh (fun v hv=>by
    have e:v.cell? ⟨p,2,none⟩=some (.slice SA l.segs.length sc):=(HXQ.out.blk.kept hv).cell 2 rfl;rw[HS.out] at e;exact e)
   have HBC:Hid (Below wq.heap.size wq wq):=qh (Below.refl _ _);have y2:=Y2.out _ HBC.out;clear hwq hBq HE6 HX6 HM6;iterate 4 (refine zaw (v:=?_) rfl (by rfl) (fun w'=>?_) ?_;rotate_left;(focus (simp only[List.getElem_toArray,List.getElem_cons_succ,List.getElem_cons_zero];go_simp;first | with_reducible rfl | (simp (disch:=omega) only [if_pos,if_neg,dif_pos,Result.andThen_ok];try with_reducible rfl) | skip));try simp only[List.getElem_toArray,List.getElem_cons_succ,List.getElem_cons_zero,Act.put,List.setIfInBounds_toArray,List.set_cons_zero,List.set_cons_succ])
   refine zcq (v:=?_) [(⟨p,2,none⟩,.slice SA 0 sc)] (by simp;and_intros<;>assumption) rfl (by rfl) (fun w' hw'=>?_) ?_;rotate_left;(focus (simp only[List.forall_mem_cons,List.not_mem_nil,false_imp_iff,implies_true,and_true] at hw';simp only[List.getElem_toArray,List.getElem_cons_succ,List.getElem_cons_zero];go_simp;first | with_reducible rfl | (simp (disch:=omega) only [if_pos,if_neg,dif_pos,Result.andThen_ok];try with_reducible rfl) | skip));try simp only[List.getElem_toArray,List.getElem_cons_succ,List.getElem_cons_zero,Act.put,List.setIfInBounds_toArray,List.set_cons_zero,List.set_cons_succ]
   iterate 1 (refine zaw (v:=?_) rfl (by rfl) (fun w'=>?_) ?_;rotate_left;(focus (simp only[List.getElem_toArray,List.getElem_cons_succ,List.getElem_cons_zero];go_simp;first | with_reducible rfl | (simp (disch:=omega) only [if_pos,if_neg,dif_pos,Result.andThen_ok];try with_reducible rfl) | skip));try simp only[List.getElem_toArray,List.getElem_cons_succ,List.getElem_cons_zero,Act.put,List.setIfInBounds_toArray,List.set_cons_zero,List.set_cons_succ])
   refine ze2 ⟨?_,?_⟩
   focus
    refine zh rfl (by rfl) (fun K hK=>?_)
    go_simp
    refine(jA (HXQ.out.blk.kept HBC.out) l.era rfl (by omega) 1 (by omega) (HEQ.out.below (HBC.out.mono hBq2)) (by have:=HBC.out.size;omega)).mono ?_;rintro e w7 ⟨rfl,hb7⟩;rw[<-HNM.out];have HBD:=qh (HBC.out.trans (hb7.mono HBC.out.size));try (have HOD:=qh (HOC.out.below hb7);clear HOC;have HOC:=HOD;clear HOD)
    clear y2 HBC hb7;have HBC:=HBD;clear HBD;have y2:=Y2.out _ HBC.out;refine zg hK ?_;clear hK K;refine zh rfl (by rfl) (fun K hK=>?_)
    go_simp
    obtain⟨w8,hw8,hB8,hb8,hz8⟩:=zdv HBC.out (.cells #[.int .i64 0] 3);have hO8:=lit_of (B:=B) HBC.out (by have:=HBC.out.size;omega) (.int .i64 0) 3;obtain⟨mb,hmb⟩:=jM HBC.out;have hmb2:wq.heap.size<=mb:=(by rw[hmb];exact HBC.out.size);rw[<-hw8,<-hmb] at hO8;rw[<-hw8,<-hmb];have HOC:=qh hO8;clear y2 HBC hw8 hb8 hO8 hz8 hmb;have HBC:=qh hB8;clear hB8;have y2:=Y2.out _ HBC.out;refine zg hK ?_;clear hK K;iterate 1 (refine zd ?_)
    refine zh rfl (by rfl) (fun K hK=>?_)
    go_simp
    obtain⟨w9,hw9,hB9,hb9,hz9⟩:=zdv HBC.out (.cells #[.string ⟨nm.toArray⟩,.int .u64 1,.slice (some ⟨mb,0,none⟩) 1 1] TG);have hQ9:=zc9 HBC.out #[.string ⟨nm.toArray⟩,.int .u64 1,.slice (some ⟨mb,0,none⟩) 1 1] TG;obtain⟨qb,hqb2⟩:=jM HBC.out;have hqb3:wq.heap.size<=qb:=(by rw[hqb2];exact HBC.out.size);rw[<-hw9,<-hqb2] at hQ9;rw[<-hw9,<-hqb2];have HO9:=qh (HOC.out.below hb9);have HQ9:=qh hQ9;clear y2 HBC hw9 hb9 hQ9 hz9 hqb2 HOC;have HBC:=qh hB9;clear hB9;have y2:=Y2.out _ HBC.out;refine zg hK ?_;clear hK K;refine zh rfl (by rfl) (fun K hK=>?_)
    go_simp
    obtain⟨w10,hw10,hB10,hb10,hz10⟩:=zdv HBC.out (.cells #[.pointer (some ⟨qb,0,none⟩)] TP);have hL10:=(zc9 HBC.out #[.pointer (some ⟨qb,0,none⟩)] TP).cell (j:=0) (v:=.pointer (some ⟨qb,0,none⟩)) rfl;obtain⟨lb,hlb⟩:=jM HBC.out;rw[<-hw10,<-hlb] at hL10;rw[<-hw10,<-hlb];have HSG10:Hid (SgAt w10 B ⟨nm,1,[0]⟩ ⟨qb,mb,1⟩):=qh ⟨HQ9.out.kept hb10,HO9.out.below hb10,by simp⟩;have HL10:=qh hL10;clear y2 HBC hw10 hb10 hL10 hz10 hlb HQ9 HO9;have HX10:=qh (HXQ.out.below hB10);have HB10:=qh hB10;have hsz10:wq.heap.size<=w10.heap.size:=hB10.size;clear hB10;have HSV:Hid (OV w10 B TP SA sc []):=qh HX10.out.lb.sv;have y2:=Y2.out _ HB10.out;refine zg hK ?_;clear hK K;refine zh rfl (by rfl) (fun K hK=>?_);refine xR w10 (.tmp 177) (.tmp 183) 117 TP (by rfl) Tryz.underlying117 HI.out.1 HI.out.2.1 HI.out.2.2.1 HI.out.2.2.2 rfl B SA sc 1 lb [] (.pointer (some ⟨qb,0,none⟩)) (by rfl) (by rfl) HSV.out HL10.out rfl (by simp) (by simp) (by omega) ?_;intro ys m g8 c8 w11 hys hm8 ho8 hk8 hg8 hat8;have m8:=Mods.of_grown (S:=fun x=>SA.map (·.block)=some x) hg8 (fun _ h=>h);have hp8:=HX10.out.blk.mods m8 (HX10.out.lb.sv.ne_blk HX10.out.blk (by decide));have HADD:=qh (HX10.out.addNew (n0:=wq.heap.size) (n:=m) HSG10.out ⟨by show wq.heap.size<=qb;omega,by show wq.heap.size<=mb;omega⟩ hBq2 (fun b hb=>HXQ.out.lb.di.bnd b hb) (fun b hb=>(HXQ.out.lb.bnd b hb).2) (by omega) hg8 ho8 hat8 (by rw[HS.out];exact hm8));have HMA:Hid (Mods (fun b=>S b\/F b) wr (w11.setCell ⟨p,2,none⟩ (.slice (some ⟨g8,0,none⟩) m c8))):=qh ((((HMQ.out.trans (Mods.of_below (S:=fun b=>S b\/F b) HB10.out) (fun i hi=>.inl hi)).trans m8 (fun i hi=>.inl (.inr (HX10.out.lb.fs i hi))))).trans ((Mods.refl (·=p) w11).setCell ⟨p,2,none⟩ (.inl rfl) (.slice (some ⟨g8,0,none⟩) m c8)) (fun i hi=>.inl (.inr (by rw[hi];exact HX10.out.fp))));clear y2 ho8 hk8 hg8 hat8 hys m8 hm8 HX10 HSG10 HB10 HSV HL10;have y2:w11.cell? ⟨p,2,none⟩=some (.slice SA 0 sc):=by
     have e:w11.cell? ⟨p,2,none⟩=some (.slice SA l.segs.length sc):=hp8.cell 2 rfl;rw[HS.out] at e;exact e
    have f2:w11.frozen? ⟨p,2,none⟩=false:=hp8.free 2;refine zg hK ?_;clear hK K;iterate 2 (refine zd ?_)
    refine zh rfl (by rfl) (fun K hK=>?_)
    go_simp
    skip
    refine zg hK ?_;clear hK K;refine zk ?_
   rotate_left
   focus
    refine zh rfl (by rfl) (fun K hK=>?_)
    go_simp
    obtain⟨w8,hw8,hB8,hb8,hz8⟩:=zdv HBC.out (.cells #[.int .i64 0] 3);have hO8:=lit_of (B:=B) HBC.out (by have:=HBC.out.size;omega) (.int .i64 0) 3;obtain⟨mb,hmb⟩:=jM HBC.out;have hmb2:wq.heap.size<=mb:=(by rw[hmb];exact HBC.out.size);rw[<-hw8,<-hmb] at hO8;rw[<-hw8,<-hmb];have HOC:=qh hO8;clear y2 HBC hw8 hb8 hO8 hz8 hmb;have HBC:=qh hB8;clear hB8;have y2:=Y2.out _ HBC.out;refine zg hK ?_;clear hK K;refine zh rfl (by rfl) (fun K hK=>?_)
    go_simp
    refine(jA (HXQ.out.blk.kept HBC.out) l.era rfl (by omega) 1 (by omega) (HEQ.out.below (HBC.out.mono hBq2)) (by have:=HBC.out.size;omega)).mono ?_;rintro e w7 ⟨rfl,hb7⟩;rw[<-HNM.out];have HBD:=qh (HBC.out.trans (hb7.mono HBC.out.size));try (have HOD:=qh (HOC.out.below hb7);clear HOC;have HOC:=HOD;clear HOD)
    clear y2 HBC hb7;have HBC:=HBD;clear HBD;have y2:=Y2.out _ HBC.out;refine zg hK ?_;clear hK K;iterate 1 (refine zd ?_)
    refine zh rfl (by rfl) (fun K hK=>?_)
    go_simp
    obtain⟨w9,hw9,hB9,hb9,hz9⟩:=zdv HBC.out (.cells #[.string ⟨nm.toArray⟩,.int .u64 1,.slice (some ⟨mb,0,none⟩) 1 1] TG);have hQ9:=zc9 HBC.out #[.string ⟨nm.toArray⟩,.int .u64 1,.slice (some ⟨mb,0,none⟩) 1 1] TG;obtain⟨qb,hqb2⟩:=jM HBC.out;have hqb3:wq.heap.size<=qb:=(by rw[hqb2];exact HBC.out.size);rw[<-hw9,<-hqb2] at hQ9;rw[<-hw9,<-hqb2];have HO9:=qh (HOC.out.below hb9);have HQ9:=qh hQ9;clear y2 HBC hw9 hb9 hQ9 hz9 hqb2 HOC;have HBC:=qh hB9;clear hB9;have y2:=Y2.out _ HBC.out;refine zg hK ?_;clear hK K;refine zh rfl (by rfl) (fun K hK=>?_)
    go_simp
    obtain⟨w10,hw10,hB10,hb10,hz10⟩:=zdv HBC.out (.cells #[.pointer (some ⟨qb,0,none⟩)] TP);have hL10:=(zc9 HBC.out #[.pointer (some ⟨qb,0,none⟩)] TP).cell (j:=0) (v:=.pointer (some ⟨qb,0,none⟩)) rfl;obtain⟨lb,hlb⟩:=jM HBC.out;rw[<-hw10,<-hlb] at hL10;rw[<-hw10,<-hlb];have HSG10:Hid (SgAt w10 B ⟨nm,1,[0]⟩ ⟨qb,mb,1⟩):=qh ⟨HQ9.out.kept hb10,HO9.out.below hb10,by simp⟩;have HL10:=qh hL10;clear y2 HBC hw10 hb10 hL10 hz10 hlb HQ9 HO9;have HX10:=qh (HXQ.out.below hB10);have HB10:=qh hB10;have hsz10:wq.heap.size<=w10.heap.size:=hB10.size;clear hB10;have HSV:Hid (OV w10 B TP SA sc []):=qh HX10.out.lb.sv;have y2:=Y2.out _ HB10.out;refine zg hK ?_;clear hK K;refine zh rfl (by rfl) (fun K hK=>?_);refine xR w10 (.tmp 177) (.tmp 183) 117 TP (by rfl) Tryz.underlying117 HI.out.1 HI.out.2.1 HI.out.2.2.1 HI.out.2.2.2 rfl B SA sc 1 lb [] (.pointer (some ⟨qb,0,none⟩)) (by rfl) (by rfl) HSV.out HL10.out rfl (by simp) (by simp) (by omega) ?_;intro ys m g8 c8 w11 hys hm8 ho8 hk8 hg8 hat8;have m8:=Mods.of_grown (S:=fun x=>SA.map (·.block)=some x) hg8 (fun _ h=>h);have hp8:=HX10.out.blk.mods m8 (HX10.out.lb.sv.ne_blk HX10.out.blk (by decide));have HADD:=qh (HX10.out.addNew (n0:=wq.heap.size) (n:=m) HSG10.out ⟨by show wq.heap.size<=qb;omega,by show wq.heap.size<=mb;omega⟩ hBq2 (fun b hb=>HXQ.out.lb.di.bnd b hb) (fun b hb=>(HXQ.out.lb.bnd b hb).2) (by omega) hg8 ho8 hat8 (by rw[HS.out];exact hm8));have HMA:Hid (Mods (fun b=>S b\/F b) wr (w11.setCell ⟨p,2,none⟩ (.slice (some ⟨g8,0,none⟩) m c8))):=qh ((((HMQ.out.trans (Mods.of_below (S:=fun b=>S b\/F b) HB10.out) (fun i hi=>.inl hi)).trans m8 (fun i hi=>.inl (.inr (HX10.out.lb.fs i hi))))).trans ((Mods.refl (·=p) w11).setCell ⟨p,2,none⟩ (.inl rfl) (.slice (some ⟨g8,0,none⟩) m c8)) (fun i hi=>.inl (.inr (by rw[hi];exact HX10.out.fp))));clear y2 ho8 hk8 hg8 hat8 hys m8 hm8 HX10 HSG10 HB10 HSV HL10;have y2:w11.cell? ⟨p,2,none⟩=some (.slice SA 0 sc):=by
     have e:w11.cell? ⟨p,2,none⟩=some (.slice SA l.segs.length sc):=hp8.cell 2 rfl;rw[HS.out] at e;exact e
    have f2:w11.frozen? ⟨p,2,none⟩=false:=hp8.free 2;refine zg hK ?_;clear hK K;iterate 2 (refine zd ?_)
    refine zh rfl (by rfl) (fun K hK=>?_)
    go_simp
    skip
    refine zg hK ?_;clear hK K;refine zk ?_
   all_goals (
    clear y2 f2 hp8;have hszA:=HMA.out.size;generalize hw12:w11.setCell ⟨p,2,none⟩ (.slice (some ⟨g8,0,none⟩) m c8)=w12 at *;have h1112:w11.heap.size=w12.heap.size:=(by rw[<-hw12];simp);rw[h1112] at HADD;clear hw12 h1112;have y0:w12.cell? ⟨p,0,none⟩=some (.pointer (some ⟨g,0,none⟩)):=HADD.out.blk.cell 0 rfl;have SY:=qh (xB HADD.out.lb.di (Nat.le_trans hc1 (by decide)));clear HMQ HXQ HEQ;go_wp2_with (go_at_call 90;refine SY.out.mono ?_);rintro e w13 ⟨rfl,hd13,m13⟩;have HF:Hid (LDone B S F wr p g (.int .i64 q.1) q.2.1 q.2.2 (.returned (.int .i64 (syncD q1.2).1)) w13):=qh (by
     have hx:=HADD.out.disk (by omega) hd13 m13;rw[HS.out] at hx;rw[HQ2.out];refine⟨rfl,_,_,⟨_,_,_,_,_,_,hx⟩,fun b hb=>?_,fun b hb=>hb.imp id (fun hb=>by have:=hb.1;omega),HMA.out.trans m13 (fun i hi=>(HNS6.out i hi).imp .inl id)⟩
     rcases hb with hb | hb
     ·exact HNS6.out b hb
     ·exact .inr (by have:=hb.1;omega))
    clear HQ2 HADD HMA HNS6 SY y0 hd13 m13;go_wp2_with fail;go_ret;exact HF.out)
end
section
variable {B p g sc rc:Nat} {S F:Nat->Prop} {w w':World} {l:Lg} {D:DSt} {Z:List (Sg × Pl)} {Y:List (List UInt8 × Option Addr × Nat)} {SA RA:Option Addr} {s:Sg} {z:Pl}
def OpenE(B:Nat)(S:Nat->Prop)(w:World)(g:Nat)(q:Int × Lg × DSt)(e:Ending)(w':World):Prop :=
 ∃(p:Nat) (S' F':Nat->Prop),e=.returned (.tuple #[if q.1=0 then .pointer (some ⟨p,0,none⟩) else .pointer none,.int .i64 q.1])/\LR B S' F' w' p g q.2.1 q.2.2/\(∀b,S' b->S b\/w.heap.size<=b)/\(∀b,F' b->w.heap.size<=b)/\Mods S w w'
abbrev lg0:Lg:=⟨0,[],[],1,false⟩
theorem LX.fresh(hd:DI S w g D)(hb:Blk w p TL (logV g lg0 none 0 none 0))(hp:B<=p)(hs:¬S p)(hS:∀b,S b->B<=b):LX B S (·=p) w p g lg0 D [] [] none 0 none 0 where
 blk:=hb
 fp:=rfl
 zs:=rfl
 ys:=rfl
 lb:={
  di:=hd
  sv:=OV.nil _ _ _
  rv:=OV.nil _ _ _
  sg:=fun z hz=>by cases hz
  rc:=fun y hy=>by cases hy
  fs:=fun b hb=>by cases hb
  fr:=fun b hb=>by cases hb
  fq:=fun z hz=>by cases hz
  fy:=fun y hy=>by cases hy
  yb:=fun y hy=>by cases hy
  dis:=fun b e=>by rw[e];exact hs
  bnd:=fun b e=>by rw[e];exact⟨hp,hb.lt⟩
  sge:=hS
  qn:=List.nodup_nil
  mn:=List.nodup_nil }
theorem qA(hd:D.down=false)(hf:D.files=[]):openW D=loadF [] lg0 true D:=by
 have:namesD D=[]:=by unfold namesD;rw[hd,hf];rfl
 unfold openW;rw[this]
 rfl
theorem zdt(h:DI S w g D)(hd:D.down=false)(hf:D.files=[])(hB:B<=w.heap.size)(hS:∀b,S b->B<=b)(hE:SEnv B w)(hcnt:D.cnt<=1000) :
  Calls Tryz.prog 27 #[.pointer (some ⟨g,0,none⟩)] w (OpenE B S w g (openW D)):=by
 rw[qA hd hf];obtain⟨q,hq⟩:∃q,q=loadF [] lg0 true D:=⟨_,rfl⟩;rw[<-hq];have HQ:=qh hq;clear hq;have hnm:namesD D=[]:=by unfold namesD;rw[hd,hf];rfl
 have DN:=qh (qi h);rw[hd] at DN;obtain⟨w2,hw2⟩:∃w2,w2=w.alloc (.cells #[.pointer (some ⟨g,0,none⟩),.int .u64 0,.slice none 0 0,.slice none 0 0,.int .u64 1,.bool false] TL):=⟨_,rfl⟩;have hb2:Below w.heap.size w w2:=by rw[hw2];exact(Below.refl _ _).alloc (Nat.le_refl _) _
 have hp2:Blk w2 w.heap.size TL #[.pointer (some ⟨g,0,none⟩),.int .u64 0,.slice none 0 0,.slice none 0 0,.int .u64 1,.bool false]:=by rw[hw2];exact Blk.new w _ TL
 have NM:=qh (xd (h.below hb2) (Nat.le_trans hcnt (by decide)) (fun q hq=>by rw[hf] at hq;cases hq));rw[hnm] at NM;have HD:=qh h;have HS:=qh hS;have HE:=qh hE;have HP:=qh hp2;have HB2:=qh hb2;have HW2:=qh hw2;rw[hw2] at NM;clear h hS hE hp2 hb2 hw2 hd hf hnm;go_enter Tryz.func27,Tryz.ntmps27;go_wp2_with (go_at_call 57;refine DN.out.mono ?_);first | rintro e w1 ⟨rfl,rfl⟩ | rintro e w1 rfl rfl
 clear DN;go_wp2_with (go_at_call 30;refine NM.out.mono ?_);rw[<-HW2.out];rintro e w3 ⟨A,cA,rfl,hoA,hb3⟩;have hcA:=hoA.cap;simp only[List.map_nil,List.length_nil] at hcA;have hL3:LX B S (·=w.heap.size) w3 w.heap.size g lg0 D [] [] none 0 none 0:=(LX.fresh (p:=w.heap.size) (HD.out.below HB2.out) HP.out hB (fun hs=>by have:=HD.out.bnd _ hs;omega) HS.out).below hb3;have hB3:=HB2.out.trans (hb3.mono HB2.out.size);have hs3:w.heap.size<=w3.heap.size:=hB3.size;have SO:Hid (∀f w,Calls Tryz.prog 66 #[.slice none 0 0,f] w fun e w'=>e=.returned (.tuple #[])/\w'=w):=qh (fun f w=>sortOne none 0 0 f w (by omega));have LO:=qh (walLoad0 hL3 rfl (Nat.le_trans hB hs3) (HE.out.below (hB3.mono hB)) hcnt (by show(0:Nat)<=_;omega) none 0);have HB3:=qh hB3;rw[<-HQ.out] at LO;clear hL3 hB3 hoA hb3 HD HS HE HP HB2 HW2 NM HQ;go_wp2_with fail;go_loopw [5,22] (fun s5 s22 wr=>s5=.slice none 0 0/\s22=.int .i64 0/\wr=w3) (fun _ _ _=>0)
 case atStart=>exact⟨rfl,rfl,by first | rfl | trivial⟩
 case round =>
  obtain⟨rfl,rfl,rfl⟩:=hrel;clear hcA;go_wp2_with (go_at_call 66;refine(SO.out _ _).mono ?_);first | rintro e w4 ⟨rfl,rfl⟩ | rintro e w4 rfl rfl
  clear SO;go_wp2_with (go_at_call 69;refine LO.out.mono ?_);rintro e w5 ⟨rfl,S',F',hl,hs',hf',hm⟩;have HF:Hid (OpenE B S w g q (.returned (.tuple #[if q.1=0 then .pointer (some ⟨w.heap.size,0,none⟩) else .pointer none,.int .i64 q.1])) w5):=qh ⟨w.heap.size,S',F',rfl,hl,fun b hb=>(hs' b hb).imp id (fun h=>by omega),fun b hb=>(hf' b hb).elim (fun e=>by rw[e];exact Nat.le_refl _) (fun h=>by omega),(Mods.of_below HB3.out).trans hm (fun i hi=>hi.elim .inl (fun e=>.inr (by rw[e];exact Nat.le_refl _)))⟩;clear LO hl hs' hf' hm HB3;by_cases hq0:q.1=0
  ·have hqb:(q.1 == 0)=true:=(by simpa using hq0);rw[if_pos hq0] at HF;go_wp2_with fail
   go_ret2
   rw[hq0] at HF;exact HF.out
  ·have hqb:(q.1 == 0)=false:=(by simpa using hq0);rw[if_neg hq0] at HF;go_wp2_with fail
   go_ret2
   exact HF.out
end
end Go.Proofs.YtobdmlejabjmiaaGreatDoor
