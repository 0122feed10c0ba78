/- Made small by a program. -/
import Derived.Test.YtobdmlejabjmiaaGreatDoorZc27
import Derived.Deep.CutBlock
import Derived.Deep.DeepCutAuto
import Derived.OwnWalk
set_option maxRecDepth 20000
set_option maxHeartbeats 8000000
namespace Go.Proofs.YtobdmlejabjmiaaGreatDoor
open Go.RowKit
section
variable {B p g sc rc:Nat} {S F:Nat->Prop} {w w':World} {l:Lg} {D:DSt} {Z:List (Sg × Pl)} {Y:List (List UInt8 × Option Addr × Nat)} {SA RA:Option Addr}
def LDone(B:Nat)(S F:Nat->Prop)(w:World)(p g:Nat)(v:Value)(l':Lg)(D':DSt)(e:Ending)(w':World):Prop :=
 e=.returned v/\∃S' F':Nat->Prop,LR B S' F' w' p g l' D'/\(∀b,S' b->S b\/w.heap.size<=b)/\(∀b,F' b->F b\/w.heap.size<=b)/\Mods (fun b=>S b\/F b) w w'
theorem LX.lastSeg(h:LX B S F w p g l D Z Y SA sc RA rc)(hn:0<l.segs.length):∃Z1 s z sb,Z=Z1++[(s,z)]/\l.segs.getLast?=some s/\l.segs=Z1.map Prod.fst++[s]/\SA=some ⟨sb,0,none⟩/\sb<w.heap.size/\w.cell? ⟨sb,l.segs.length - 1,none⟩=some (.pointer (some ⟨z.q,0,none⟩))/\SgAt w B s z:=by
 have hl:=h.lens.1;obtain⟨Z1,⟨s,z⟩,hZ⟩:∃Z1 sz,Z=Z1++[sz]:=⟨Z.dropLast,Z.getLast (by intro e;rw[e] at hl;simp at hl;omega),(List.dropLast_concat_getLast _).symm⟩;have hsg:=h.zs;rw[hZ,List.map_append,List.map_cons,List.map_nil] at hsg;have hlen1:l.segs.length - 1=Z1.length:=by rw[<-hsg];simp
 obtain⟨b,off,e,hb,hc⟩:=h.lb.sv.rv.cell (j:=l.segs.length - 1) (by rw[List.length_map];omega);have hoff:off=0:=by
  rcases h.lb.sv.cells with e2 | ⟨g',cs,e2,_⟩
  ·rw[e2] at e;cases e
  ·rw[e2] at e;injection e with e;injection e with _ e _;exact e.symm
 subst hoff;rw[Nat.zero_add] at hc;refine⟨Z1,s,z,b,hZ,by rw[<-hsg];simp,hsg.symm,e,hb,?_,h.lb.sg (s,z) (by rw[hZ];simp)⟩;rw[hc];simp only[List.getElem_map,hlen1,hZ];simp
theorem zbw{l:Lg}{s:Sg}(h:l.segs.getLast?=some s):l.fits=decide (s.stop<512):=by unfold Lg.fits;rw[h]
theorem to_last{l:Lg}{s:Sg}(h:l.segs.getLast?=some s)(hf:s.stop<512):l.to=s:=by unfold Lg.to;rw[h];simp[hf]
theorem to_new{l:Lg}(h:l.fits=false):l.to=⟨walName l.era l.next,l.next,[0]⟩:=by
 unfold Lg.to;unfold Lg.fits at h;split
 ·rename_i s hs;rw[hs] at h;simp only at h;rw[if_neg (by simpa using h)]
 ·rfl
theorem zfu(h:l.fine):l.to.stop<=100000000/\l.to.marks.length<=1000000/\l.to.name.length<=1000:=by
 unfold Lg.to;have h1:∀n e:Nat,n<=1000000000000->e<=1000000000000->(walName e n).length<=1000:=fun n e hn he=>by
  have:=xA (e:=e) (n:=n) (by omega) (by omega);omega
 split
 ·rename_i s hs;have hm:s∈l.segs:=List.mem_of_getLast? hs;split
  ·have:=h.seg s hm;exact⟨this.1,this.2.1,this.2.2.1⟩
  ·exact⟨by show(0:Nat)<=_;omega,by show(1:Nat)<=_;omega,h1 _ _ h.nx h.era⟩
 ·exact⟨by show(0:Nat)<=_;omega,by show(1:Nat)<=_;omega,h1 _ _ h.nx h.era⟩
theorem zft:(Tryz.prog.info? 34).map (fun i=>(i.zero,i.size,i.bytes))=some (some (.slice none 0 0),1,24):=by kernel_rfl
theorem zcM:(Tryz.prog.info? 159).map (fun i=>(i.zero,i.size,i.bytes))=some (some (.pointer none),1,8):=by kernel_rfl
theorem zfs{α β:Type}(f:α->β)(L:List α)(k:Nat)(hk:k<L.length):(L.take (k+1)).map f=(L.take k).map f++[f L[k]]:=by
 rw[List.take_succ_eq_append_getElem hk,List.map_append];rfl
theorem zax:∀(L:List (List UInt8)) (n:Nat) (r:List UInt8),recsB n (L++[r])=recsB n L++recB (n+L.length) r
 | [],n,r=>by simp[recsB]
 | a::L,n,r=>by
  rw[List.cons_append,recsB,zax L,recsB,List.length_cons,List.append_assoc];congr 3;omega
theorem qu:∀(L:List (List UInt8)) (i n:Nat) (r:List UInt8),marksB i n (L++[r])=marksB i n L++[i+(recsB n L).length+(recB (n+L.length) r).length]
 | [],i,n,r=>by simp[marksB,recsB]
 | a::L,i,n,r=>by
  rw[List.cons_append,marksB,qu L,marksB,List.cons_append,recsB,List.length_append,List.length_cons];congr 3;rw[show n+1+L.length=n+(L.length+1) from by omega];omega
theorem recB_len(n:Nat)(r:List UInt8):(recB n r).length<=r.length+17:=by
 unfold recB;rw[jk,List.length_append];have:=jJ n;unfold putNum;simp only[List.length_cons,List.length_reverse];omega
theorem zfy(h:LX B S F w p g l D Z Y SA sc RA rc)(hB:B<=w.heap.size)(hE:SEnv B w)(X:Option Addr)(cx:Nat)(L:List (Option Addr × Nat × List UInt8))(hX:RL (fun b=>S b\/F b) w X L)(hL:L.length<=1000)(hok:l.fine)(hcnt:D.cnt<=1000000) :
  Calls Tryz.prog 43 #[.pointer (some ⟨p,0,none⟩),.slice X L.length cx] w (LDone B S F w p g (.int .i64 (appendW l D (L.map (·.2.2))).1) (appendW l D (L.map (·.2.2))).2.1 (appendW l D (L.map (·.2.2))).2.2):=by
 have AL:=qh (jz h.blk l.down rfl);obtain⟨q,hq⟩:∃q,q=appendW l D (L.map (·.2.2)):=⟨_,rfl⟩;rw[<-hq];have HQ:=qh hq;have HR0:Hid (LR B S F w p g l D):=qh ⟨Z,Y,SA,sc,RA,rc,h⟩;have HX:=qh hX;have HS:=qh h;have HOK:=qh hok;have HE:=qh hE;clear h hq hX hok hE;cases hd:l.down with
 | true =>
  rw[hd,if_pos rfl] at AL;have HF:Hid (LDone B S F w p g (.int .i64 q.1) q.2.1 q.2.2 (.returned (.int .i64 11)) w):=qh (by
   have e:q=(11,l,D):=(by rw[HQ.out];unfold appendW;rw[if_pos hd]);rw[e];exact⟨rfl,S,F,HR0.out,fun b hb=>.inl hb,fun b hb=>.inl hb,Mods.refl _ _⟩)
  clear hd HQ HR0 HX HS hcnt;go_enter Tryz.func43,Tryz.ntmps43;go_wp2_with (go_at_call 92;refine AL.out.mono ?_);first | rintro e w1 ⟨rfl,rfl⟩ | rintro e w1 rfl rfl
  clear AL;go_wp2_with fail;go_ret;exact HF.out
 | false =>
  rw[hd,if_neg (by simp)] at AL;have HD:=qh hd;clear hd;go_enter Tryz.func43,Tryz.ntmps43;go_wp2_with (go_at_call 92;refine AL.out.mono ?_);first | rintro e w1 ⟨rfl,rfl⟩ | rintro e w1 rfl rfl
  clear AL;go_wp2_with fail;go_loopw [27] (fun s27 wr=>∃k:Nat,k<=L.length/\s27=.int .i64 (k:Int)/\wr=w/\Hid (∀y∈L.take k,y.2.2.length<=65520)) (fun s27 _=>L.length - (intOf s27).toNat)
  case atStart=>exact⟨0,Nat.zero_le _,rfl,by first | rfl | trivial,qh (by simp)⟩
  case round =>
   obtain⟨k,hk,rfl,rfl,HSM⟩:=hrel;by_cases hlt:k<L.length
   ·
    have hki:(k:Int)<(L.length:Int):=(by omega);have hki0:(0:Int)<=(k:Int):=(by omega);obtain⟨xb,off,rfl,hbl,hc⟩:=HX.out.rbb.cell hlt;obtain⟨⟨A,c,r⟩,hy⟩:∃y,y=L[k]:=⟨_,rfl⟩;rw[<-hy] at hc;simp only at hc;have HY:=qh hy;clear hy;by_cases hbig:65520<r.length
    ·have hbig':(65520:Int)<(r.length:Int):=(by omega);have HF:Hid (LDone B S F wr p g (.int .i64 q.1) q.2.1 q.2.2 (.returned (.int .i64 7)) wr):=qh (by
      have e:q=(7,l,D):=by
       rw[HQ.out];unfold appendW;rw[if_neg (by rw[HD.out];simp),if_pos];rw[List.any_eq_true];refine⟨r,List.mem_map.2 ⟨L[k],List.getElem_mem hlt,by rw[<-HY.out]⟩,by simpa using hbig⟩
      rw[e];exact⟨rfl,S,F,HR0.out,fun b hb=>.inl hb,fun b hb=>.inl hb,Mods.refl _ _⟩)
     clear hbig HQ HR0 HX HS hcnt HSM HY;go_wp2_with fail;go_ret;exact HF.out
    ·have hbig':¬(65520:Int)<(r.length:Int):=(by omega);have HSN:Hid (∀y∈L.take (k+1),y.2.2.length<=65520):=qh (by
      rw[List.take_succ_eq_append_getElem hlt];intro y hy
      rcases List.mem_append.1 hy with hy | hy
      ·exact HSM.out y hy
      ·rw[List.mem_singleton.1 hy,<-HY.out];simp only;omega)
     clear hbig HSM HY;go_wp2_with fail;go_roundw
     case rel=>exact⟨k+1,by omega,by go_num,by first | rfl | trivial,HSN⟩
     case measure=>simp[intOf];omega
   ·obtain rfl:k=L.length:=(by omega);have HSA:Hid (∀y∈L,y.2.2.length<=65520):=qh (by have:=HSM.out;rw[List.take_length] at this;exact this);have HNA:Hid (((L.map (·.2.2)).any fun r=>decide (65520<r.length))=false):=qh (by
     rw[List.any_eq_false];intro r hr;obtain⟨y,hy,rfl⟩:=List.mem_map.1 hr;have:=HSA.out y hy;simpa using this)
    clear HSM hlt hk;by_cases h0:L.length=0
    ·have HF:Hid (LDone B S F wr p g (.int .i64 q.1) q.2.1 q.2.2 (.returned (.int .i64 0)) wr):=qh (by
      have e:q=(0,l,D):=by
       rw[HQ.out];unfold appendW;rw[if_neg (by rw[HD.out];simp),if_neg (by rw[HNA.out];simp),if_pos (by rw[List.eq_nil_of_length_eq_zero h0];rfl)]
      rw[e];exact⟨rfl,S,F,HR0.out,fun b hb=>.inl hb,fun b hb=>.inl hb,Mods.refl _ _⟩)
     clear HQ HR0 HX HS hcnt HSA HNA;rw[h0];go_wp2_with fail;go_ret;exact HF.out
    ·have h0b:((L.length:Int) == 0)=false:=(by rw[beq_eq_false_iff_ne];omega);have c2:wr.cell? ⟨p,2,none⟩=some (.slice SA l.segs.length sc):=HS.out.blk.cell 2 rfl;go_upto_region 14 with fail;go_cut [56] (fun s56 wx=>s56=.bool l.fits/\Hid (Below wr.heap.size wr wx))
     case first =>
      by_cases hn:l.segs.length=0
      ·have hff:l.fits=false:=(by unfold Lg.fits;rw[List.eq_nil_of_length_eq_zero hn];rfl);have HFF:=qh hff;have hn0:¬(0:Int)<(l.segs.length:Int):=(by omega);clear HQ HR0 HX hcnt HSA HNA hn hff;go_wp2_with fail
       go_meet
       exact⟨by rw[HFF.out],qh (Below.refl _ _)⟩
      ·obtain⟨Z1,s,z,sb,hZ,hlast,hsegs,rfl,hsb,hc,hsg⟩:=HS.out.lastSeg (by omega);have hsm:s∈l.segs:=(by rw[hsegs];simp);have SE:=qh (qO hsg (by have:=(HOK.out.seg s hsm).2.1;omega));have hsl:=HOK.out.sl;have hw:IntKind.i64.wrap ((l.segs.length:Int) - 1)=((l.segs.length - 1:Nat):Int):=(by rw[IntWalk.i64_in _ (by omega)];omega);have hn0:(0:Int)<(l.segs.length:Int):=(by omega);have hi0:(0:Int)<=((l.segs.length - 1:Nat):Int):=(by omega);have hi1:((l.segs.length - 1:Nat):Int)<(l.segs.length:Int):=(by omega);have HFL:=qh (zbw hlast);by_cases hst:s.stop<512
       ·have hstI:(s.stop:Int)<512:=(by omega);have hdec:decide (s.stop<512)=true:=(by simpa using hst);have HFD:=qh (HFL.out.trans hdec);clear HQ HR0 HX hcnt HSA HNA hZ hlast hsegs hsm hst hdec hsg;go_wp2_with (go_at_call 96;refine SE.out.mono ?_);first | rintro e w2 rfl m2 rfl | rintro e w2 ⟨rfl,m2,rfl⟩
        go_wp2_with fail
        go_meet
        exact⟨by rw[HFD.out];first | done | rfl | (congr 1;exact decide_eq_false (by omega)) | (congr 1;exact decide_eq_true (by omega)),qh (zl (Below.refl _ _) _)⟩
       ·have hstI:¬(s.stop:Int)<512:=(by omega);have hdec:decide (s.stop<512)=false:=(by simpa using hst);have HFD:=qh (HFL.out.trans hdec);clear HQ HR0 HX hcnt HSA HNA hZ hlast hsegs hsm hst hdec hsg;go_wp2_with (go_at_call 96;refine SE.out.mono ?_);first | rintro e w2 rfl m2 rfl | rintro e w2 ⟨rfl,m2,rfl⟩
        go_wp2_with fail
        go_meet
        exact⟨by rw[HFD.out];first | done | rfl | (congr 1;exact decide_eq_false (by omega)) | (congr 1;exact decide_eq_true (by omega)),qh (zl (Below.refl _ _) _)⟩
     case rest =>
     obtain⟨rfl,HBC⟩:=hcut;clear c2
     go_upto_if 56 with fail
     go_cut [8] (fun s8 wx=>∃z:Pl,s8=.pointer (some ⟨z.q,0,none⟩)/\Hid (ToAt B wr l Z z wx))
     case first =>
      have hB':Below wr.heap.size wr wc:=HBC.out;cases hff:l.fits with
      | true =>
       have hn:0<l.segs.length:=by
        rcases Nat.eq_zero_or_pos l.segs.length with e | e
        ·unfold Lg.fits at hff;rw[List.eq_nil_of_length_eq_zero e] at hff;cases hff
        ·exact e
       obtain⟨Z1,s,z,sb,hZ,hlast,hsegs,rfl,hsb,hc0,hsg⟩:=HS.out.lastSeg hn;have hst:s.stop<512:=(by have:=zbw hlast;rw[hff] at this;simpa using this.symm);have hto:l.to=s:=to_last hlast hst;have hsl:=HOK.out.sl;have hw:IntKind.i64.wrap ((l.segs.length:Int) - 1)=((l.segs.length - 1:Nat):Int):=(by rw[IntWalk.i64_in _ (by omega)];omega);have hi0:(0:Int)<=((l.segs.length - 1:Nat):Int):=(by omega);have hi1:((l.segs.length - 1:Nat):Int)<(l.segs.length:Int):=(by omega);have c2:wc.cell? ⟨p,2,none⟩=some (.slice (some ⟨sb,0,none⟩) l.segs.length sc):=(HS.out.blk.kept hB').cell 2 rfl;have hc:wc.cell? ⟨sb,l.segs.length - 1,none⟩=some (.pointer (some ⟨z.q,0,none⟩)):=(hB'.cell (p:=⟨sb,_,none⟩) hsb).trans hc0;have HTO:Hid (ToAt B wr l Z z wc):=qh ⟨by rw[hto];exact hsg.below hB',hB',.inl ⟨hff,Z1,by rw[hto];exact hZ⟩⟩;clear HQ HR0 HX hcnt HSA HNA hZ hlast hsegs hst hsg hB' HBC hto hc0 hff;go_wp2_with fail
       go_meet
       exact⟨z,by first | rfl | trivial,HTO⟩
      | false =>
       have hwc:B<=wc.heap.size:=Nat.le_trans hB hB'.size;have hnx:=HOK.out.nx;have hnn:l.next=l.first+l.recs.length:=rfl;have N1:=xM (HS.out.blk.kept hB') l.first l.recs.length rc RA rfl rfl (by omega);rw[<-hnn] at N1;have NX1:=qh N1;have HTN:=qh (to_new hff);have HFF:=qh hff;clear HQ HR0 HX hcnt HSA HNA N1 hff;go_wp2_with (go_at_call 81;refine NX1.out.mono ?_);first | rintro e w2 rfl m2 rfl | rintro e w2 ⟨rfl,m2,rfl⟩
       have hB2:Below wr.heap.size wr (wc.drewN m2):=zl hB' m2;have NM:=qh (jA (HS.out.blk.kept hB2) l.era rfl (by have:=HOK.out.era;omega) l.next (by omega) (HE.out.below (hB2.mono hB)) (Nat.le_trans hB hB2.size));clear NX1;go_wp2_with (go_at_call 97;refine NM.out.mono ?_);first | rintro e w3 rfl hb3 | rintro e w3 ⟨rfl,hb3⟩
       have hB3:Below wr.heap.size wr w3:=hB2.trans (hb3.mono hB2.size);have N2:=xM (HS.out.blk.kept hB3) l.first l.recs.length rc RA rfl rfl (by omega);rw[<-hnn] at N2;have NX2:=qh N2;clear NM N2 hb3 hB2;go_wp2_with (go_at_call 81;refine NX2.out.mono ?_);first | rintro e w4 rfl m4 rfl | rintro e w4 ⟨rfl,m4,rfl⟩
       have hB4:Below wr.heap.size wr (w3.drewN m4):=zl hB3 m4;have hw4:wr.heap.size<=w3.heap.size:=hB3.size;have HTO:Hid (ToAt B wr l Z ⟨w3.heap.size+1,w3.heap.size,1⟩ (((w3.drewN m4).alloc (.cells #[.int .i64 0] 3)).alloc (.cells #[.string ⟨(walName l.era l.next).toArray⟩,.int .u64 (l.next:Int),.slice (some ⟨w3.heap.size,0,none⟩) 1 1] TG))):=qh (by
        have hm1:OV ((w3.drewN m4).alloc (.cells #[.int .i64 0] 3)) B 3 (some ⟨w3.heap.size,0,none⟩) 1 [.int .i64 0]:=OV.lit1 (w3.drewN m4) (Nat.le_trans hB hw4) _ _;have hq1:=Blk.new ((w3.drewN m4).alloc (.cells #[.int .i64 0] 3)) #[.string ⟨(walName l.era l.next).toArray⟩,.int .u64 (l.next:Int),.slice (some ⟨w3.heap.size,0,none⟩) 1 1] TG;rw[show((w3.drewN m4).alloc (.cells #[.int .i64 0] 3)).heap.size=w3.heap.size+1 from by simp] at hq1;refine⟨?_,(hB4.alloc hw4 _).alloc (by simp;omega) _,.inr ⟨HFF.out,by show wr.heap.size<=w3.heap.size+1;omega,hw4⟩⟩;rw[HTN.out];exact⟨hq1,(hm1.alloc _),by simp⟩)
       clear NX2 hB3 hB4;go_wp2_with fail
       go_meet
       exact⟨⟨w3.heap.size+1,w3.heap.size,1⟩,by first | rfl | simp,HTO⟩
     case rest =>
      obtain⟨z,rfl,HT⟩:=hcut;obtain⟨W,rfl⟩:∃W,W=wr:=⟨_,rfl⟩;clear HBC;have htf:=zfu HOK.out;go_upto_region 17 with fail;go_cut [10,11] (fun s10 s11 wx=>s10=.int .i64 (l.to.stop:Int)/\s11=.slice (some ⟨z.m,0,none⟩) l.to.marks.length z.c/\Hid (ToAt B W l Z z wx))
      case first =>
       have cq2:wc.cell? ⟨z.q,2,none⟩=some (.slice (some ⟨z.m,0,none⟩) l.to.marks.length z.c):=HT.out.sg.blk.cell 2 rfl;clear HQ HR0 HX hcnt HSA HNA
       go_quiet ((go_at_call 96;exact Calls.quiet_of (qO (HT.out.sg.below (zl (Below.refl _ _) _)) (Nat.le_trans htf.2.1 (by decide)))))
       go_wp2_with fail
       go_meet
       exact⟨by first | rfl | trivial,by first | rfl | trivial,qh ⟨HT.out.sg.below (zl (Below.refl _ _) _),zl HT.out.bel _,HT.out.how⟩⟩
      case rest =>
       obtain⟨rfl,rfl,HT1⟩:=hcut;clear HT;obtain⟨w1,hw1⟩:∃u,u=wc:=⟨_,rfl⟩;subst hw1;have HAP0:Hid (ApAt B w1 w1 z l.to none 0 [] z.m z.c l.to.marks):=qh ⟨OB.nil _ _,HT1.out.sg.mr,HT1.out.sg.mr,⟨[],by simp⟩,.inl rfl,HT1.out.sg.lt.2,Mods.refl _ _⟩;have hto:=zfu HOK.out;obtain⟨st,hst⟩:∃n,n=l.to.stop:=⟨_,rfl⟩;obtain⟨ml,hml⟩:∃n,n=l.to.marks.length:=⟨_,rfl⟩;have hnx:=HOK.out.nx;have hnn:l.next=l.first+l.recs.length:=rfl;obtain⟨nx,hnxe⟩:∃n,n=l.next:=⟨_,rfl⟩;rw[<-hst,<-hml] at hto ⊢;rw[<-hnxe] at hnx hnn;have HST:=qh hst;have HML:=qh hml;have HNX:=qh hnxe;have HNN:=qh hnn;obtain⟨hto1,hto2,hto3⟩:=hto;have HW1:Hid (Below W.heap.size W w1):=qh HT1.out.bel;clear hst hml hnxe hnn;obtain⟨i0,hi0,hz0,hz1,hz2⟩:=info_parts xP;go_wp2_with fail;go_loopw [11,12,82] (fun s11 s12 s82 wr=>∃(k:Nat) (A:Option Addr) (c:Nat) (bs:List UInt8) (mb mc:Nat) (ms:List Nat) (n:Nat),k<=L.length/\s82=.int .i64 (k:Int)/\s12=.slice A bs.length c/\s11=.slice (some ⟨mb,0,none⟩) n mc/\n<=1000000+k/\Hid (n=ms.length)/\bs.length<=k*65537 /\
        Hid (ApAt B w1 wr z l.to A c bs mb mc ms)/\Hid (bs=recsB nx ((L.take k).map (·.2.2))/\ms=l.to.marks++marksB st nx ((L.take k).map (·.2.2)))) (fun _ _ s82 _=>L.length - (intOf s82).toNat)
       case atStart=>exact⟨0,none,0,[],z.m,z.c,l.to.marks,_,Nat.zero_le _,rfl,rfl,rfl,by omega,HML,by simp,HAP0,qh ⟨by simp[recsB],by simp[marksB]⟩⟩
       case round =>
        clear HAP0;obtain⟨k,A,c,bs,mb,mc,ms,n,hk,rfl,rfl,rfl,hn,HN2,hbl,HAP,HBM⟩:=hrel;by_cases hlt:k<L.length
        ·
         have hki:(k:Int)<(L.length:Int):=(by omega);have hki0:(0:Int)<=(k:Int):=(by omega);have hmW:Mods (fun b=>b=z.m) W wr:=(Mods.of_below HW1.out).trans HAP.out.mods (fun i hi=>.inl hi);have HX1:=qh (HX.out.mods hmW (fun b hb e=>.inr (HT1.out.own HS.out.lb b hb (.inr e))));obtain⟨xb,off,rfl,hbl2,hc⟩:=HX1.out.rbb.cell hlt;have hrb:=(HX1.out.rbb.each _ (List.getElem_mem hlt)).1;have hrl:=HSA.out _ (List.getElem_mem hlt);obtain⟨⟨A0,c0,r⟩,hy⟩:∃y,y=L[k]:=⟨_,rfl⟩;rw[<-hy] at hc hrb hrl;simp only at hc hrb hrl;have HY:=qh hy;have HRB:=qh hrb;have hpb:Blk wr p TL (logV g l SA sc RA rc):=HS.out.blk.mods hmW (fun e=>by
          have h1:=HT1.out.sg.lt.2
          rcases HT1.out.how with⟨_,Z1,hZ⟩ | ⟨_,_,h3⟩
          ·have hz:=HS.out.lb.sg (l.to,z) (by rw[hZ];simp);obtain⟨cs,hb⟩:=hz.mblk;exact hb.ne HS.out.blk (by decide) e.symm
          ·have:=HS.out.blk.lt;omega)
         have N1:=xM hpb l.first l.recs.length rc RA rfl rfl (by have:=HNN.out;omega);rw[<-HNN.out] at N1;have NX1:=qh N1;have hw1:IntKind.u64.wrap (k:Int)=(k:Int):=IntWalk.u64_in _ (by omega);have hw2:IntKind.u64.wrap ((nx:Int)+(k:Int))=((nx+k:Nat):Int):=(by rw[IntWalk.u64_in _ (by omega)];omega);clear hy hrb hmW N1 hpb hbl2;go_wp2_with (go_at_call 81;refine NX1.out.mono ?_);first | rintro e w2 rfl m2 rfl | rintro e w2 ⟨rfl,m2,rfl⟩
         have hb2:Below wr.heap.size wr (wr.drewN m2):=zl (Below.refl _ _) m2;have PN:=qh (zcr none 0 [] ((nx+k:Nat):Int) (wr.drewN m2) RB.nil (by simp) (by omega) (by omega));clear NX1 hc;go_wp2_with (go_at_call 98;refine PN.out.mono ?_);rintro e w3 ⟨d1,A1,c1,hd1,hd11,hd12,rfl,ho1,hb3⟩;rw[List.nil_append,Int.toNat_natCast] at hd1;have hpl:d1.length<=9:=by
          rw[hd1.out];have:=jJ (nx+k);unfold putNum;simp only[List.length_cons,List.length_reverse];omega
         have hb23:=hb2.trans (hb3.mono hb2.size);have HRB3:=qh (HRB.out.below hb23);have HD1:=qh hd1.out;have HB3:=qh hb23;have HO1:=qh ho1;have hs2:wr.heap.size<=(wr.drewN m2).heap.size:=hb2.size;have hs3:(wr.drewN m2).heap.size<=w3.heap.size:=hb3.size;clear PN hd1 hd11 hd12 ho1 hb3 hb2 hb23;go_wp2_with (at_builtin;refine zO _ rfl (.tmp 93) (.tmp 94) rfl (wr.drewN m2).heap.size _ _ _ _ d1 r rfl rfl HO1.out HRB3.out (by omega) hs3 ?_);intro d2 A2 c2 w4 hd2 hd21 hd22 ho2 hg2;have hb4:Below wr.heap.size wr w4:=by
          have hm:=HB3.out;refine⟨hg2.os.trans hm.os,hg2.tape.trans hm.tape,hg2.output.trans hm.output,Nat.le_trans hm.size hg2.size,fun i hi=>(hg2.block i (Nat.lt_of_lt_of_le hi hm.size) (fun e=>?_)).trans (hm.block i hi)⟩;have h1:=(HO1.out.own_lt i e.symm).1;omega
         have FR:=qh (zah A2 c2 d2 w4 ho2.rb (by omega));have HD2:=qh hd2.out;have HB4:=qh hb4;clear hd2 ho2 hg2 hb4 HO1 HB3 HRB3;go_wp2_with (go_at_call 87;refine FR.out.mono ?_);rintro e w5 ⟨d3,A3,c3,hd3,hd31,hd32,rfl,ho3,hb5⟩;have hfl:d3.length<=r.length+17:=by
          have e1:=hd3.out;have e2:d3=recB (nx+k) r:=(by rw[e1,HD2.out,HD1.out];rfl);rw[e2];exact recB_len _ _
         have HD3:Hid (d3=recB (nx+k) r):=qh (by rw[hd3.out,HD2.out,HD1.out];rfl);have hb45:=HB4.out.trans (hb5.mono HB4.out.size);have HAP5:=qh (HAP.out.below hb45);have HO3:=qh ho3;have hW1s:W.heap.size<=w1.heap.size:=HW1.out.size;have hs5:w1.heap.size<=w5.heap.size:=Nat.le_trans HAP.out.mods.size hb45.size;clear FR hd3 hd31 hd32 ho3 hb5 hb45 HD2 HD1 HB4 HAP;obtain⟨xs,hxs⟩:∃xs,xs=ms.map encMark:=⟨_,rfl⟩;have hxl:n=xs.length:=(by rw[hxs,List.length_map];exact HN2.out);have HXS:=qh hxs;subst hxl;clear hxs;go_wp2_with (first
          | (at_builtin;refine zO _ rfl (.tmp 99) (.tmp 100) rfl w1.heap.size _ _ _ _ bs d3 rfl rfl HAP5.out.ob HO3.out.rb (by omega) hs5 ?_;intro d4 A4 c4 w6 hd4 hd41 hd42 ho4 hg4;have HAP6:=qh (HAP5.out.addB ho4 hg4);have hs6:w5.heap.size<=w6.heap.size:=hg4.size;have HD4:=qh hd4.out;have hw3:IntKind.i64.wrap ((st:Int)+(d4.length:Int))=((st+d4.length:Nat):Int):=(by rw[IntWalk.i64_in _ (by omega)];omega);have HAP7:=qh (HAP6.out.below ((Below.refl _ _).alloc (Nat.le_refl _) (.cells #[.int .i64 ((st+d4.length:Nat):Int)] 3)));have hc7:(w6.alloc (.cells #[.int .i64 ((st+d4.length:Nat):Int)] 3)).cell? ⟨w6.heap.size,0,none⟩=some (encMark (st+d4.length)):=(Blk.new w6 #[.int .i64 ((st+d4.length:Nat):Int)] 3).cell 0 rfl;have HMR:=qh HAP7.out.mr;rw[<-HXS.out] at HMR;have HC7:=qh hc7;clear hd4 ho4 hg4 hc7)
          | (at_builtin;go_loud (refine yP _ rfl (.tmp 102) (.tmp 107) 31 3 rfl Tryz.underlying31 hi0 hz0 hz1 hz2 rfl B (some ⟨mb,0,none⟩) mc 1 w6.heap.size xs (encMark (st+d4.length)) rfl rfl HMR.out HC7.out rfl (by omega) (by omega) (by simp;omega) ?_)))
         intro ys m g7 c7 w8 hys hm8 hk8 ho8 hg8 hat8;have hm8':m=xs.length+1:=hm8;have HAP8:Hid (ApAt B w1 w8 z l.to A4 c4 d4 g7 c7 (ms++[st+d4.length])):=qh (by
          have hat9:some mb=some g7\/g7=(w6.alloc (.cells #[.int .i64 ((st+d4.length:Nat):Int)] 3)).heap.size:=by
           rcases hat8 with e | e
           ·exact .inl (by rw[e])
           ·exact .inr (by rw[e];simp)
          refine HAP7.out.addM (v:=st+d4.length) ?_ ?_ hg8 hat9
          ·rw[List.map_append,List.map_cons,List.map_nil,<-HXS.out];exact hk8
          ·rw[<-HXS.out];exact ho8)
         have HBM8:Hid (d4=recsB nx ((L.take (k+1)).map (·.2.2))/\ms++[st+d4.length]=l.to.marks++marksB st nx ((L.take (k+1)).map (·.2.2))):=qh (by
          have e0:=zfs (fun y:Option Addr × Nat × List UInt8=>y.2.2) L k hlt;have e1:L[k].2.2=r:=(by rw[<-HY.out]);simp only[e1] at e0;have hlk:((L.take k).map (fun y:Option Addr × Nat × List UInt8=>y.2.2)).length=k:=(by rw[List.length_map,List.length_take];omega);have e2:d4=recsB nx ((L.take (k+1)).map (·.2.2)):=by
           rw[HD4.out,HBM.out.1,HD3.out,e0,zax,hlk]
          refine⟨e2,?_⟩;rw[e0,qu,hlk,HBM.out.2,List.append_assoc];congr 3;rw[HD4.out,List.length_append,HBM.out.1,HD3.out,Nat.add_assoc])
         have HN8:Hid (m=(ms++[st+d4.length]).length):=qh (by rw[hm8',HXS.out];simp);clear hys hk8 ho8 hg8 hat8 HAP7 HAP6 HMR HC7 HXS HBM HN2 HD4 HD3 HAP5 HO3 hm8;go_wp2_with fail;go_roundw
         case rel=>exact⟨k+1,A4,c4,d4,g7,c7,_,m,by omega,by go_num,by first | rfl | trivial,by first | rfl | trivial,by omega,HN8,by omega,HAP8,HBM8⟩
         case measure=>simp[intOf];omega
        ·obtain rfl:k=L.length:=(by omega);have HBE:Hid (bs=recsB nx (L.map (·.2.2))/\ms=l.to.marks++marksB st nx (L.map (·.2.2))):=qh (by have:=HBM.out;rw[List.take_length] at this;exact this);have hmW:Mods (fun b=>b=z.m) W wr:=(Mods.of_below HW1.out).trans HAP.out.mods (fun i hi=>.inl hi);have HMW:=qh hmW;have HXR:=qh (HAP.out.lx HS.out HT1.out);have HSR:=qh (HAP.out.sg HT1.out.sg);have hW1s:W.heap.size<=w1.heap.size:=HW1.out.size;have hszR:W.heap.size<=wr.heap.size:=hmW.size;obtain⟨q1,hq1⟩:∃q1,q1=putW D l.to.name st bs:=⟨_,rfl⟩;have HQ1:=qh hq1;obtain⟨nm,hnm⟩:∃nm,nm=l.to.name:=⟨_,rfl⟩;have HNM:=qh hnm;rw[<-hnm] at hq1 hto3;clear HBM hmW hlt hk hq1 hnm;go_wp2_with fail;refine zf (by kernel_rfl) [(0,none),(1,none),(2,none),(3,none),(4,none),(5,none),(6,none),(7,none),(8,none),(9,none),(10,none),(11,some [4,8,9,10]),(12,some [0]),(13,none)] (by kernel_rfl) (by kernel_rfl) (by decide) ?_;intro wq hwq;have hBq:Below wr.heap.size wr wq:=(by rw[hwq];exact(Below.refl _ _).drew);have HXQ:=qh (HXR.out.below hBq);have HAQ:=qh (HAP.out.below hBq);have HSQ:=qh (HSR.out.below hBq);have HMQ:Hid (Mods (fun b=>b=z.m) W wq):=qh (HMW.out.below hBq);have hszq:W.heap.size<=wq.heap.size:=HMQ.out.size;have y0:wq.cell? ⟨p,0,none⟩=some (.pointer (some ⟨g,0,none⟩)):=HXQ.out.blk.cell 0 rfl;have yq:wq.cell? ⟨z.q,0,none⟩=some (.string ⟨nm.toArray⟩):=(by rw[HNM.out];exact HSQ.out.blk.cell 0 rfl);clear hwq hBq HXR HSR HMW HAP;iterate 4 (refine zd ?_)
         refine ze [(⟨p,0,none⟩,.pointer (some ⟨g,0,none⟩))] ?_;iterate 3 (refine zd ?_)
         refine ze [(⟨z.q,0,none⟩,.string ⟨nm.toArray⟩)] ?_;iterate 2 (refine zd ?_)
         refine zh rfl (by rfl) (fun K hK=>?_)
         go_simp
         refine(jW nm (st:Int) bs A c HXQ.out.lb.di HAQ.out.ob.rb (fun _ b hb hs=>by
          have h1:=(HAQ.out.ob.blk_in b hb).1;have h2:=HS.out.lb.di.bnd b hs;omega) hcnt (by omega) (by omega) (by omega)).mono ?_
         rintro e w5 ⟨rfl,hd5,m5⟩;rw[show changeD D ⟨1,nm,((st:Int)).toNat,bs⟩ (st:Int)=q1 from by rw[HQ1.out,HNM.out,Int.toNat_natCast];rfl] at hd5 ⊢;have HX5:=qh (HXQ.out.disk (Nat.le_trans hB hszq) hd5 m5);have HM5:=qh m5;have HS5:=qh (HSQ.out.mods m5 (HT1.out.ns HS.out.lb).1 (HT1.out.ns HS.out.lb).2);clear hd5 m5 y0 yq;have y0:w5.cell? ⟨p,0,none⟩=some (.pointer (some ⟨g,0,none⟩)):=HX5.out.blk.cell 0 rfl;have yq:w5.cell? ⟨z.q,0,none⟩=some (.string ⟨nm.toArray⟩):=(by rw[HNM.out];exact HS5.out.blk.cell 0 rfl);refine zg hK ?_;clear hK K;refine zh rfl (by rfl) (fun K hK=>?_)
         go_simp
         refine(zdr HX5.out.blk l.down rfl q1.1).mono ?_;rintro e w6 ⟨rfl,rfl⟩;clear y0 yq;have HX6:Hid (LX B (Sx S wq w5) F (w5.setCell ⟨p,5,none⟩ (.bool (l.down || decide (q1.1=11)))) p g (l.fell q1.1) q1.2 Z Y SA sc RA rc):=qh (HX5.out.set 5 _ rfl rfl rfl);have mp:Mods (·=p) w5 (w5.setCell ⟨p,5,none⟩ (.bool (l.down || decide (q1.1=11)))):=(Mods.refl (·=p) w5).setCell ⟨p,_,none⟩ (.inl rfl) _;have HS6:=qh (HS5.out.mods mp (HS5.out.blk.ne HX5.out.blk (by decide)) (by obtain⟨cs,hb⟩:=HS5.out.mblk;exact hb.ne HX5.out.blk (by decide)));have HM6:Hid (Mods (fun b=>S b\/F b) W (w5.setCell ⟨p,5,none⟩ (.bool (l.down || decide (q1.1=11))))):=qh ((((HMQ.out.mono (fun b hb e=>.inr (HT1.out.own HS.out.lb b hb (.inr e)))).trans HM5.out (fun i hi=>.inl (.inl hi))).trans mp (fun i hi=>.inl (.inr (by rw[hi];exact HS.out.fp)))));have y0:(w5.setCell ⟨p,5,none⟩ (.bool (l.down || decide (q1.1=11)))).cell? ⟨p,0,none⟩=some (.pointer (some ⟨g,0,none⟩)):=HX6.out.blk.cell 0 rfl;have yq:(w5.setCell ⟨p,5,none⟩ (.bool (l.down || decide (q1.1=11)))).cell? ⟨z.q,0,none⟩=some (.string ⟨nm.toArray⟩):=(by rw[HNM.out];exact HS6.out.blk.cell 0 rfl);clear mp;refine zg hK ?_;clear hK K;iterate 1 (refine zd ?_)
         refine zk ?_;clear y0 yq;have HNS6:Hid (∀b,Sx S wq w5 b->S b\/W.heap.size<=b):=qh (fun b hb=>hb.elim .inl (fun hb=>.inr (Nat.le_trans hszq hb.1)));have HA6:Hid (OV (w5.setCell ⟨p,5,none⟩ (.bool (l.down || decide (q1.1=11)))) B 3 (some ⟨mb,0,none⟩) mc (ms.map encMark)/\(mb=z.m\/W.heap.size<=mb)/\¬Sx S wq w5 mb):=qh (by
          obtain⟨cs,hb⟩:=HAQ.out.mblk;have hns:¬S mb:=fun hs=>by
           rcases HAQ.out.mb with e | e
           ·rw[e] at hs;exact(HT1.out.ns HS.out.lb).2 hs
           ·have:=HS.out.lb.di.bnd _ hs;omega
          have m5:=HM5.out;have h5:=HAQ.out.mr.mods m5 (fun k hk hs=>by
           have e:mb=k:=(by simpa using hk);subst e;exact hns hs)
          have mp:Mods (·=p) w5 (w5.setCell ⟨p,5,none⟩ (.bool (l.down || decide (q1.1=11)))):=(Mods.refl (·=p) w5).setCell ⟨p,_,none⟩ (.inl rfl) _;refine⟨h5.mods mp (fun k hk e=>h5.ne_blk HX5.out.blk (by decide) (by rw[hk,e])),?_,fun hs=>?_⟩
          ·rcases HAQ.out.mb with e | e
           ·exact .inl e
           ·exact .inr (by omega)
          ·rcases hs with hs | hs
           ·exact hns hs
           ·have:=hb.lt;have:=hs.1;omega)
         have HMB:Hid (B<=mb/\mb<(w5.setCell ⟨p,5,none⟩ (.bool (l.down || decide (q1.1=11)))).heap.size):=qh (by
          rcases HA6.out.1.cells with e | ⟨g',cs,e,hb⟩
          ·cases e
          ·injection e with e;injection e with e _ _;subst e
           refine⟨?_,hb.lt⟩
           rcases HA6.out.2.1 with e | e
           ·rw[e]
            rcases HT1.out.how with⟨_,Z1,hZ⟩ | ⟨_,_,h3⟩
            ·exact(HS.out.lb.bnd _ (HS.out.lb.fq (l.to,z) (by rw[hZ];simp)).2).1
            ·exact Nat.le_trans hB h3
           ·exact Nat.le_trans hB e)
         have HZS:Hid (¬Sx S wq w5 z.q/\¬Sx S wq w5 z.m):=qh (by
          have h1:=HT1.out.sg.lt;have h2:=HAQ.out.mods.size;have h3:=HT1.out.ns HS.out.lb;exact⟨fun hs=>hs.elim h3.1 (fun hs=>by have:=hs.1;omega),fun hs=>hs.elim h3.2 (fun hs=>by have:=hs.1;omega)⟩)
         have HPM:Hid (0<ms.length):=qh (by
          obtain⟨t,ht⟩:=HAQ.out.pre;have:=HT1.out.sg.pos;rw[ht,List.length_append];omega)
         have hsz6:W.heap.size<=(w5.setCell ⟨p,5,none⟩ (.bool (l.down || decide (q1.1=11)))).heap.size:=HM6.out.size;clear HX5 HS5 HM5 HXQ HAQ HSQ HMQ;generalize w5.setCell ⟨p,5,none⟩ (.bool (l.down || decide (q1.1=11)))=w6 at *;generalize Sx S wq w5=S5 at *;by_cases hq0:q1.1=0;rotate_left
         ·have hqb:(q1.1 == 0)=false:=(by simpa using hq0);have HF:Hid (LDone B S F W p g (.int .i64 q.1) q.2.1 q.2.2 (.returned (.int .i64 q1.1)) w6):=qh (by
           have e:q=(q1.1,l.fell q1.1,q1.2):=by
            have e1:putW D l.to.name l.to.stop (recsB l.next (L.map (·.2.2)))=q1:=(by rw[HQ1.out,HST.out,HBE.out.1,HNX.out]);rw[HQ.out];unfold appendW;rw[if_neg (by rw[HD.out];simp),if_neg (by rw[HNA.out];simp),if_neg (by intro e2;rw[List.map_eq_nil_iff] at e2;exact h0 (by rw[e2];rfl)),e1,if_pos hq0]
           rw[e];exact⟨rfl,_,F,⟨Z,Y,SA,sc,RA,rc,HX6.out⟩,HNS6.out,fun b hb=>.inl hb,HM6.out⟩)
          clear HQ HR0 HX HS HSA HNA HX6 HS6 HM6 HA6 HNS6 HT1 HMB;go_wp2_with fail;go_ret;exact HF.out
         ·have hqb:(q1.1 == 0)=true:=(by simpa using hq0);have HX7:Hid (LX B S5 F w6 p g l q1.2 Z Y SA sc RA rc):=qh (HX6.out.same (by unfold Lg.fell;rw[hq0,HD.out];exact zc3 l HD.out));have HQQ:Hid (q=(0,{ l with segs:=(if l.fits=true then l.segs.dropLast else l.segs)++[{ l.to with marks:=ms }],recs:=l.recs++L.map (·.2.2) },q1.2)):=qh (by
           have e1:putW D l.to.name l.to.stop (recsB l.next (L.map (·.2.2)))=q1:=(by rw[HQ1.out,HST.out,HBE.out.1,HNX.out]);rw[HQ.out];unfold appendW;rw[if_neg (by rw[HD.out];simp),if_neg (by rw[HNA.out];simp),if_neg (by intro e2;rw[List.map_eq_nil_iff] at e2;exact h0 (by rw[e2];rfl)),e1,if_neg (by rw[hq0];simp),HBE.out.2,HST.out,HNX.out])
          clear HX6 HQ HR0 HQ1 HBE HNM;rw[hq0];have c2:w6.cell? ⟨p,2,none⟩=some (.slice SA l.segs.length sc):=HX7.out.blk.cell 2 rfl;go_upto_region 29 with fail;go_cut [147] (fun s147 wx=>s147=.bool (!l.fits)/\Hid (Below w6.heap.size w6 wx))
          case first =>
           have hsl:=HOK.out.sl;by_cases hn:l.segs.length=0
           ·have hff:l.fits=false:=(by unfold Lg.fits;rw[List.eq_nil_of_length_eq_zero hn];rfl);have HFF:=qh hff;have hn0:((l.segs.length:Int) == 0)=true:=(by rw[hn];rfl);clear HX HT1 HA6 HX7 HS6 HM6 HNS6 HQQ HMB hff hn
            go_quiet (fail)
            go_wp2_with fail
            go_meet
            exact⟨by rw[HFF.out];first | done | rfl | simp,qh (zl (Below.refl _ _) _)⟩
           ·have hn0:((l.segs.length:Int) == 0)=false:=(by rw[beq_eq_false_iff_ne];omega);obtain⟨Z1,s0,z0,sb,hZ,hlast,hsegs,rfl,hsb,hc,hsg⟩:=HX7.out.lastSeg (by omega);have hw:IntKind.i64.wrap ((l.segs.length:Int) - 1)=((l.segs.length - 1:Nat):Int):=(by rw[IntWalk.i64_in _ (by omega)];omega);have hi0:(0:Int)<=((l.segs.length - 1:Nat):Int):=(by omega);have hi1:((l.segs.length - 1:Nat):Int)<(l.segs.length:Int):=by omega
            rcases HT1.out.how with⟨hff,Z2,hZ2⟩ | ⟨hff,hg1,hg2⟩
            ·have hzz:z0=z:=by
              rw[hZ] at hZ2;have:=List.append_inj_right' hZ2 rfl;injection this with this _
              injection this with _ this
             subst hzz;have HFF:=qh hff;have hpe:∀n,(binOp .neq TP (.pointer (some ⟨z0.q,0,none⟩)) (.pointer (some ⟨z0.q,0,none⟩))).run Tryz.prog (w6.drewN n)=.ok (.bool false) (w6.drewN n):=fun n=>zbL _ _
             clear HX HT1 HA6 HX7 HS6 HM6 HNS6 HQQ HMB hff hZ hlast hsegs hsg hZ2
             go_quiet (fail)
             go_wp2_with fail
             go_meet
             exact⟨by rw[HFF.out];first | done | rfl | simp,qh (zl (Below.refl _ _) _)⟩
            ·have hzz:¬z0.q=z.q:=by
              have h1:=HS.out.lb.sg (s0,z0) (by rw[hZ];simp);have:=h1.lt.1;simp only at this;omega
             have hpe:∀n,(binOp .neq TP (.pointer (some ⟨z0.q,0,none⟩)) (.pointer (some ⟨z.q,0,none⟩))).run Tryz.prog (w6.drewN n)=.ok (.bool true) (w6.drewN n):=fun n=>za3 hzz (hsg.below (zl (Below.refl _ _) n)).blk (HS6.out.below (zl (Below.refl _ _) n)).blk
             have HFF:=qh hff;clear HX HT1 HA6 HX7 HS6 HM6 HNS6 HQQ HMB hff hZ hlast hsegs hsg hg1 hg2
             go_quiet (fail)
             go_wp2_with fail
             go_meet
             exact⟨by rw[HFF.out];first | done | rfl | simp,qh (zl (Below.refl _ _) _)⟩
          case rest =>
           obtain⟨rfl,HBC⟩:=hcut;clear c2;have hn2:=HN2.out;subst hn2;have hBc:=HBC.out;have HX8:=qh (HX7.out.below hBc);have HS8:=qh (HS6.out.below hBc);have HM8:Hid (Mods (fun b=>S b\/F b) W wc):=qh (HM6.out.below hBc);have HA8:=qh (HA6.out.1.below hBc);have hsz8:w6.heap.size<=wc.heap.size:=hBc.size;have HMB8:Hid (B<=mb/\mb<wc.heap.size):=qh ⟨HMB.out.1,by have:=HMB.out.2;omega⟩;clear hBc HBC HX7 HS6 HM6 HMB
           go_upto_if 147 with fail
           go_cut [] (fun wx=>∃(Zi:List (Sg × Pl)) (SA2:Option Addr) (sc2:Nat) (F2:Nat->Prop),Hid (JoinAt B S S5 F W p g l q1.2 Y RA rc z mb mc ms wx Zi SA2 sc2 F2))
           case first =>
            rcases HT1.out.how with⟨hff,Z1,hZ⟩ | ⟨hff,hg1,hg2⟩
            ·have HJ:Hid (JoinAt B S S5 F W p g l q1.2 Y RA rc z mb mc ms wc Z1 SA sc (fun b=>F b\/b=mb)):=qh (JoinAt.same HX8.out hZ hff HA8.out HA6.out.2.2 HMB8.out HA6.out.2.1 HS.out HM8.out);clear HX HT1 HA6 HX8 HS8 HM8 HNS6 HQQ HMB8 hZ HA8 HZS HPM;simp only[hff,Bool.not_true];clear hff;go_wp2_with fail
             go_meet
             exact⟨_,_,_,_,HJ⟩
            ·obtain⟨i0,hi0,hz0,hz1,hz2⟩:=info_parts zcM;obtain⟨xs,hxs⟩:∃xs,xs=Z.map ptrV:=⟨_,rfl⟩;have hxl:xs.length=l.segs.length:=(by rw[hxs,List.length_map,HX8.out.lens.1]);have hsl:=HOK.out.sl;have hxb:xs.length<=1000000:=(by omega);have HXL:=qh hxl;have HXS:=qh hxs;have c2:wc.cell? ⟨p,2,none⟩=some (.slice SA xs.length sc):=(by rw[hxl];exact HX8.out.blk.cell 2 rfl);have hb9:Below wc.heap.size wc (wc.alloc (.cells #[.pointer (some ⟨z.q,0,none⟩)] TP)):=(Below.refl _ _).alloc (Nat.le_refl _) _;have HC9:=qh ((Blk.new wc #[.pointer (some ⟨z.q,0,none⟩)] TP).cell (j:=0) (v:=.pointer (some ⟨z.q,0,none⟩)) rfl);have HX9:=qh (HX8.out.below hb9);have HS9:=qh (HS8.out.below hb9);have HM9:Hid (Mods (fun b=>S b\/F b) W (wc.alloc (.cells #[.pointer (some ⟨z.q,0,none⟩)] TP))):=qh (HM8.out.below hb9);have HA9:=qh (HA8.out.below hb9);have HMB9:Hid (B<=mb/\mb<(wc.alloc (.cells #[.pointer (some ⟨z.q,0,none⟩)] TP)).heap.size):=qh ⟨HMB8.out.1,Nat.lt_of_lt_of_le HMB8.out.2 hb9.size⟩;have HFF:=qh hff;have HG12:=qh (And.intro hg1 hg2);have HSV:=HX9.out.lb.sv;rw[<-hxs] at HSV;have HSV2:=qh HSV;simp only[hff,Bool.not_false];clear HX HT1 HX8 HS8 HM8 HNS6 HQQ HMB8 HA8 HPM hb9 hff hg1 hg2 hxs hxl HSV;go_wp2_with (at_builtin;go_loud (refine yP _ rfl (.tmp 152) (.tmp 154) 117 TP rfl Tryz.underlying117 hi0 hz0 hz1 hz2 rfl B SA sc 1 wc.heap.size xs (.pointer (some ⟨z.q,0,none⟩)) rfl rfl HSV2.out HC9.out rfl (by omega) (by omega) (by simp;omega) ?_));intro ys m g7 c7 w8 hys hm8 ho8 hk8 hg8 hat8;have m8:=Mods.of_grown (S:=fun x=>SA.map (·.block)=some x) hg8 (fun _ h=>h);have hp8:=HX9.out.blk.mods m8 (HX9.out.lb.sv.ne_blk HX9.out.blk (by decide));have hat9:SA.map (·.block)=some g7\/g7=(wc.alloc (.cells #[.pointer (some ⟨z.q,0,none⟩)] TP)).heap.size:=by
              rcases hat8 with⟨a,e1,e2⟩ | e1
              ·exact .inl (by rw[e1,<-e2];rfl)
              ·exact .inr (by rw[e1];simp)
             have hm9:m=l.segs.length+1:=(by rw[hm8,HXL.out]);have y2:w8.cell? ⟨p,2,none⟩=some (.slice SA l.segs.length sc):=hp8.cell 2 rfl;have f2:w8.frozen? ⟨p,2,none⟩=false:=hp8.free 2;have HJ:Hid (JoinAt B S S5 F W p g l q1.2 Y RA rc z mb mc ms (w8.setCell ⟨p,2,none⟩ (.slice (some ⟨g7,0,none⟩) m c7)) Z (some ⟨g7,0,none⟩) c7 (fun b=>F b\/b=mb\/b=z.q\/b=z.m\/b=g7)):=qh (JoinAt.added HX9.out HS9.out HFF.out HG12.out HZS.out HA9.out HA6.out.2.2 HMB9.out HA6.out.2.1 HS.out HM9.out hB hg8 (by rw[<-HXS.out];exact ho8) hat9 hm9);clear hat9 hm9 hys hk8 ho8 hg8 hat8 m8 hp8 HX9 HS9 HM9 HA9 HMB9 HFF HG12 HXL HXS HC9 HSV2 HZS HA6 HS hm8;go_wp2_with fail
             go_meet
             exact⟨_,_,_,_,HJ⟩
           case rest =>
            obtain⟨Zi,SA2,sc2,F2,HJ⟩:=hcut;clear HX8 HS8 HM8 HA8 HMB8 HZS HA6 hsz8;obtain⟨sg2,hsg2⟩:∃sg2:Sg,sg2={ l.to with marks:=ms }:=⟨_,rfl⟩;have hzs:=HJ.out.lx.lb.sg (l.to,z) (by simp);have HX10:=HJ.out.lx.setMarks (s':={ l.to with marks:=ms }) rfl ⟨rfl,rfl⟩ HPM.out HJ.out.mr HJ.out.fm HJ.out.mn;have hml2:sg2.marks.length=ms.length:=(by rw[hsg2]);rw[<-hsg2,hml2] at HX10;clear hml2;have HX11:=qh HX10;have mq:Mods (·=z.q) wc (wc.setCell ⟨z.q,2,none⟩ (.slice (some ⟨mb,0,none⟩) ms.length mc)):=(Mods.refl (·=z.q) wc).setCell ⟨z.q,_,none⟩ (.inl rfl) _;have HM11:Hid (Mods (fun b=>S b\/F b) W (wc.setCell ⟨z.q,2,none⟩ (.slice (some ⟨mb,0,none⟩) ms.length mc))):=qh (HJ.out.mods.trans mq (fun i hi=>by
             rw[hi];exact(HJ.out.f2 _ (HJ.out.lx.lb.fq (l.to,z) (by simp)).1).imp .inr id))
            have HF2:=qh HJ.out.f2;have HQ2:Hid (q=(0,{ l with segs:=Zi.map Prod.fst++[sg2],recs:=l.recs++L.map (·.2.2) },q1.2)):=qh (by rw[HQQ.out,HJ.out.zi,hsg2]);have hz2:wc.cell? ⟨z.q,2,none⟩=some (.slice (some ⟨z.m,0,none⟩) l.to.marks.length z.c):=hzs.blk.cell 2 rfl;have hf2:wc.frozen? ⟨z.q,2,none⟩=false:=hzs.blk.free 2;clear hsg2 HX10 mq HJ HQQ hzs HT1;go_upto_region 32 with fail;clear hz2 hf2;generalize wc.setCell ⟨z.q,2,none⟩ (.slice (some ⟨mb,0,none⟩) ms.length mc)=w11 at *;go_wp2_with fail;go_loopw [164] (fun s164 wr=>∃(k:Nat) (F3:Nat->Prop) (Y3:List (List UInt8 × Option Addr × Nat)) (RA3:Option Addr) (rc3:Nat),k<=L.length/\s164=.int .i64 (k:Int) /\
             Hid (LX B S5 F3 wr p g { l with segs:=Zi.map Prod.fst++[sg2],recs:=l.recs++(L.take k).map (·.2.2) } q1.2 (Zi++[(sg2,⟨z.q,mb,mc⟩)]) Y3 SA2 sc2 RA3 rc3)/\Hid (∀b,F3 b->F b\/W.heap.size<=b)/\Hid (Mods (fun b=>S b\/F b) W wr)) (fun s164 _=>L.length - (intOf s164).toNat)
            case atStart=>exact⟨0,F2,Y,RA,rc,Nat.zero_le _,rfl,qh (by simp only[List.take_zero,List.map_nil,List.append_nil];exact HX11.out),HF2,HM11⟩
            case round =>
             obtain⟨k,F3,Y3,RA3,rc3,hk,rfl,HX3,HF3,HM3⟩:=hrel;clear HX11 HM11 HF2;by_cases hlt:k<L.length
             ·
              have hki:(k:Int)<(L.length:Int):=(by omega);have hki0:(0:Int)<=(k:Int):=(by omega);have hxr:RL (fun b=>S b\/F b) wr X L:=HX.out.mods HM3.out (fun b _ h=>h);obtain⟨xb,off,rfl,hbl2,hc⟩:=hxr.rbb.cell hlt;have hrb:=(hxr.rbb.each L[k] (List.getElem_mem hlt)).1;have hrl:=HSA.out L[k] (List.getElem_mem hlt);obtain⟨⟨A0,c0,r⟩,hy⟩:∃y,y=L[k]:=⟨_,rfl⟩;rw[<-hy] at hc hrb hrl;simp only at hc hrb hrl;have HY:Hid (l.recs++(L.take (k+1)).map (·.2.2)=(l.recs++(L.take k).map (·.2.2))++[r]):=qh (by
               have e1:L[k].2.2=r:=(by rw[<-hy]);rw[zfs _ L k hlt,e1,List.append_assoc])
              have HRB:=qh hrb;obtain⟨xs,hxs⟩:∃xs,xs=Y3.map recV:=⟨_,rfl⟩;have hxl:xs.length=(l.recs++(L.take k).map (·.2.2)).length:=by
               have:=HX3.out.ys;rw[hxs,List.length_map,<-List.length_map (f:=Prod.fst),this]
              have hxb:xs.length<=1001000:=by
               have:=HOK.out.rl;rw[hxl,List.length_append,List.length_map,List.length_take];omega
              have HXL:=qh hxl;have HXS:=qh hxs;obtain⟨i0b,hi0b,hz0b,hz1b,hz2b⟩:=info_parts zft;have HI:=qh (And.intro hi0b (And.intro hz0b (And.intro hz1b hz2b)));have c3:wr.cell? ⟨p,3,none⟩=some (.slice RA3 xs.length rc3):=(by rw[hxl];exact HX3.out.blk.cell 3 rfl);have hsr:W.heap.size<=wr.heap.size:=HM3.out.size;clear hy hrb hxr hxs hxl hi0b hz0b hz1b hz2b;go_upto_region 35 with fail;refine zf (by kernel_rfl) [(0,none),(1,none),(2,none),(3,none),(4,none),(5,none),(6,some [5]),(7,some []),(8,some [4]),(9,none),(10,none),(11,some [0,1,2,3,4,5,10])] (by kernel_rfl) (by kernel_rfl) (by decide) ?_;intro wq hwq;have hBq:Below wr.heap.size wr wq:=(by rw[hwq];exact(Below.refl _ _).drew);have HXQ:=qh (HX3.out.below hBq);have HRQ:=qh (HRB.out.below hBq);have HMQ:Hid (Mods (fun b=>S b\/F b) W wq):=qh (HM3.out.below hBq);have hszq2:W.heap.size<=wq.heap.size:=HMQ.out.size;have y3:wq.cell? ⟨p,3,none⟩=some (.slice RA3 xs.length rc3):=(by rw[HXL.out];exact HXQ.out.blk.cell 3 rfl);clear hwq hBq HX3 HRB HM3 c3 hsr;iterate 4 (refine zd ?_)
              refine ze [(⟨p,3,none⟩,.slice RA3 xs.length rc3)] ?_;iterate 1 (refine zd ?_)
              refine zh rfl (by rfl) (fun K hK=>?_)
              go_simp
              refine(yH A0 c0 r _ HRQ.out (by omega)).mono ?_;rintro e w12 ⟨A1,c1,rfl,ho12,hb12⟩;have HX12:=qh (HXQ.out.below hb12);have HM12:Hid (Mods (fun b=>S b\/F b) W w12):=qh (HMQ.out.below hb12);have HO12:=qh ho12;have hsz12:wq.heap.size<=w12.heap.size:=hb12.size;clear y3 ho12 hb12;have y3:w12.cell? ⟨p,3,none⟩=some (.slice RA3 xs.length rc3):=(by rw[HXL.out];exact HX12.out.blk.cell 3 rfl);refine zg hK ?_;clear hK K;refine zh rfl (by rfl) (fun K hK=>?_)
              go_simp
              have hb13:Below w12.heap.size w12 (w12.alloc (.cells #[.slice A1 r.length c1] TB)):=(Below.refl _ _).alloc (Nat.le_refl _) _;have hL13:=Blk.new w12 #[.slice A1 r.length c1] TB;have HX13:=qh (HX12.out.below hb13);have HM13:Hid (Mods (fun b=>S b\/F b) W (w12.alloc (.cells #[.slice A1 r.length c1] TB))):=qh (HM12.out.below hb13);have HO13:=qh (HO12.out.below hb13);have hsz13:wq.heap.size<=(w12.alloc (.cells #[.slice A1 r.length c1] TB)).heap.size:=Nat.le_trans hsz12 hb13.size;obtain⟨lb,hlb⟩:∃lb,lb=w12.heap.size:=⟨_,rfl⟩;rw[<-hlb] at hL13 ⊢;generalize w12.alloc (.cells #[.slice A1 r.length c1] TB)=w13 at *;clear y3 hb13 hlb HX12 HM12 HO12 hsz12;have HL13:=qh (hL13.cell (j:=0) (v:=.slice A1 r.length c1) rfl);clear hL13;have HSV:OV w13 B TB RA3 rc3 xs:=(by rw[HXS.out];exact HX13.out.lb.rv);have HSV2:=qh HSV;clear HSV;have y3:w13.cell? ⟨p,3,none⟩=some (.slice RA3 xs.length rc3):=(by rw[HXL.out];exact HX13.out.blk.cell 3 rfl);refine zg hK ?_;clear hK K;refine zh rfl (by rfl) (fun K hK=>?_);refine xR w13 (.tmp 172) (.tmp 175) 87 TB (by rfl) Tryz.underlying87 HI.out.1 HI.out.2.1 HI.out.2.2.1 HI.out.2.2.2 rfl B RA3 rc3 1 lb xs (.slice A1 r.length c1) (by rfl) (by rfl) HSV2.out HL13.out rfl (by omega) (by omega) (by omega) ?_;intro ys m g8 c8 w14 hys hm8 ho8 hk8 hg8 hat8;have m8:=Mods.of_grown (S:=fun x=>RA3.map (·.block)=some x) hg8 (fun _ h=>h);have hp8:=HX13.out.blk.mods m8 (HX13.out.lb.rv.ne_blk HX13.out.blk (by decide));have HADD:=qh (HX13.out.addClone (n:=m) HO13.out (Nat.le_trans hB hszq2) hsz13 (fun b hb=>HXQ.out.lb.di.bnd b hb) hg8 (by rw[<-HXS.out];exact ho8) hat8 (by rw[hm8,HXL.out]));have HMA:Hid (Mods (fun b=>S b\/F b) W (w14.setCell ⟨p,3,none⟩ (.slice (some ⟨g8,0,none⟩) m c8))):=qh (((HM13.out.trans m8 (fun i hi=>(HF3.out i (HX13.out.lb.fr i hi)).imp .inr id))).trans ((Mods.refl (·=p) w14).setCell ⟨p,3,none⟩ (.inl rfl) (.slice (some ⟨g8,0,none⟩) m c8)) (fun i hi=>.inl (.inr (by rw[hi];exact HS.out.fp))));have HFA:Hid (∀b,(F3 b\/(wq.heap.size<=b/\b<w14.heap.size))->F b\/W.heap.size<=b):=qh (fun b hb=>hb.elim (HF3.out b) (fun hb=>.inr (by omega)));clear y3 ho8 hk8 hg8 hat8 hys m8 HX13 HM13 HO13 HSV2 HL13 hm8;have y3:w14.cell? ⟨p,3,none⟩=some (.slice RA3 xs.length rc3):=(by rw[HXL.out];exact hp8.cell 3 rfl);have f3:w14.frozen? ⟨p,3,none⟩=false:=hp8.free 3;refine zg hK ?_;clear hK K;iterate 2 (refine zd ?_)
              refine zh rfl (by rfl) (fun K hK=>?_)
              go_simp
              skip
              refine zg hK ?_;clear hK K;refine zk ?_;clear y3 f3 hp8 HXQ HRQ HMQ;have HADD2:Hid (LX B S5 (fun b=>F3 b\/(wq.heap.size<=b/\b<w14.heap.size)) (w14.setCell ⟨p,3,none⟩ (.slice (some ⟨g8,0,none⟩) m c8)) p g { l with segs:=Zi.map Prod.fst++[sg2],recs:=l.recs++(L.take (k+1)).map (·.2.2) } q1.2 (Zi++[(sg2,⟨z.q,mb,mc⟩)]) (Y3++[(r,A1,c1)]) SA2 sc2 (some ⟨g8,0,none⟩) c8):=qh (by rw[HY.out];exact HADD.out);clear HADD HX HS HY HXS HXL HI;generalize w14.setCell ⟨p,3,none⟩ (.slice (some ⟨g8,0,none⟩) m c8)=w15 at *;go_wp2_with fail;go_roundw
              case rel=>exact⟨k+1,_,_,_,_,by omega,by go_num,HADD2,HFA,HMA⟩
              case measure=>simp[intOf];omega
             ·obtain rfl:k=L.length:=(by omega);have HF:Hid (LDone B S F W p g (.int .i64 q.1) q.2.1 q.2.2 (.returned (.int .i64 0)) wr):=qh (by
               rw[HQ2.out];have h3:=HX3.out;rw[List.take_length] at h3;exact⟨rfl,S5,F3,⟨_,_,_,_,_,_,h3⟩,HNS6.out,HF3.out,HM3.out⟩)
              clear HX HS HX3 HM3 HNS6 HQ2 HF3;go_wp2_with fail;go_ret;exact HF.out
end
end Go.Proofs.YtobdmlejabjmiaaGreatDoor
