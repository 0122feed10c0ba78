/- Made small by a program. -/
import Derived.Test.YtobdmlejabjmiaaGreatDoorZc22
set_option maxRecDepth 20000
set_option maxHeartbeats 8000000
namespace Go.Proofs.YtobdmlejabjmiaaGreatDoor
open Go.RowKit
def OpenEnd(B:Nat)(S:Nat->Prop)(w:World)(g:Nat)(s':Sl)(D':DSt)(e:Ending)(w':World):Prop :=
 ∃(p:Nat) (S':Nat->Prop) (V:Option Addr) (cv:Nat) (O:Option Addr) (co:Nat),e=.returned (.tuple #[.pointer (some ⟨p,0,none⟩),.int .i64 0])/\SR B S' w' p g s' D' V cv O co/\(∀x,S' x->S x\/w.heap.size<=x)/\Mods S w w'/\w.heap.size<=p
section
variable {B g:Nat} {S:Nat->Prop} {w:World} {D:DSt} {b:Nm}
theorem zbd(h:DI S w g D)(hsge:∀x,S x->B<=x)(hB:B<=w.heap.size)(hE:SEnv B w)(hb:BaseOk b)(hd:D.down=false)(hcnt:D.cnt<=1000)(hnm:∀p∈D.files,nameOk p.1=true)(hcan:Canon b D)(hok:(openD b D).1=0) :
  Calls Tryz.prog 26 #[.pointer (some ⟨g,0,none⟩),.string ⟨b.toArray⟩] w (OpenEnd B S w g (openS b (scanD b D)) (openD b D).2):=by
 obtain⟨hb1,hb2⟩:=hb;obtain⟨s1,hs1⟩:∃s1,s1=openS b (scanD b D):=⟨_,rfl⟩;rw[<-hs1];have HS1T:=qh hs1;clear hs1;have hbe:(b == [])=false:=by
  rw[beq_eq_false_iff_ne];rintro rfl;simp at hb1
 have hb8:((b.length:Nat):Int)<=8:=by omega
 have hbl:b.length<=8:=hb1.2;have TR:=qh (slotTrim b w (by omega));rw[(zbY b).2 hb2] at TR;have H:=qh h;have HSG:=qh hsge;have HE:=qh hE;have HNM:=qh hnm;have HCAN:=qh hcan;have HOK:=qh hok;have hLl:(namesD D).length<=1000:=by
  have h1:=DSt.files_len D;unfold namesD;rw[if_neg (by rw[hd];simp),List.length_map];omega
 have HNL:Hid (∀f∈namesD D,nameOk f=true):=qh (fun f hf=>by
  unfold namesD at hf;rw[if_neg (by rw[hd];simp)] at hf;obtain⟨q,hq,rfl⟩:=List.mem_map.1 hf;exact hnm q hq)
 clear h hsge hE hnm hcan hok hb1 hb2;go_enter Tryz.func26,Tryz.ntmps26;go_wp2_with (go_at_call 56;refine TR.out.mono ?_);rintro e w1 ⟨rfl,b1⟩;have HB1:=qh b1;have H1:=qh (H.out.below b1);have DN:=qh (qi H1.out);rw[hd] at DN;clear b1 TR;go_wp2_with (go_at_call 57;refine DN.out.mono ?_);rintro e w1' ⟨rfl,rfl⟩;clear DN;obtain⟨w2,hw2⟩:∃w2,w2=(((w1.alloc (.cells #[.pointer (some ⟨g,0,none⟩),.string ⟨b.toArray⟩,.int .u64 0,.slice none 0 0,.bool false,.slice none 0 0,.bool false] TS)).alloc (.cells #[.pointer (some ⟨w1.heap.size,0,none⟩)] 69)).alloc (.cells #[.int .u64 0] 23)):=⟨_,rfl⟩;have hx2:Below w1.heap.size w1 w2:=by rw[hw2];exact(((Below.refl _ _).alloc (Nat.le_refl _) _).alloc (by simp) _).alloc (by simp;omega) _
 have hp2:Blk w2 w1.heap.size TS #[.pointer (some ⟨g,0,none⟩),.string ⟨b.toArray⟩,.int .u64 0,.slice none 0 0,.bool false,.slice none 0 0,.bool false]:=by rw[hw2];exact((Blk.new w1 #[.pointer (some ⟨g,0,none⟩),.string ⟨b.toArray⟩,.int .u64 0,.slice none 0 0,.bool false,.slice none 0 0,.bool false] TS).kept ((Below.refl _ _).alloc (Nat.le_refl _) _)).kept ((Below.refl _ _).alloc (Nat.le_refl _) _)
 have h62:Blk w2 (w1.heap.size+1) 69 #[.pointer (some ⟨w1.heap.size,0,none⟩)]:=by
  have:=(Blk.new (w1.alloc (.cells #[.pointer (some ⟨g,0,none⟩),.string ⟨b.toArray⟩,.int .u64 0,.slice none 0 0,.bool false,.slice none 0 0,.bool false] TS)) #[.pointer (some ⟨w1.heap.size,0,none⟩)] 69).kept ((Below.refl _ _).alloc (Nat.le_refl _) (.cells #[.int .u64 0] 23));rw[hw2];simpa using this
 have h72:Blk w2 (w1.heap.size+1+1) 23 #[.int .u64 0]:=by
  have:=Blk.new ((w1.alloc (.cells #[.pointer (some ⟨g,0,none⟩),.string ⟨b.toArray⟩,.int .u64 0,.slice none 0 0,.bool false,.slice none 0 0,.bool false] TS)).alloc (.cells #[.pointer (some ⟨w1.heap.size,0,none⟩)] 69)) #[.int .u64 0] 23;rw[hw2];simpa using this
 have hd2:=H1.out.below hx2;have hS1:SR B S w2 w1.heap.size g (slotAt b (scanAt b D 0)) D none 0 none 0:=⟨hp2,hd2,OB.nil _ _,OV.nil _ _ _,Nat.le_trans hB HB1.out.size,HSG.out,(fun hs=>by have:=H1.out.bnd _ hs;omega),(fun x hx=>by cases hx),(fun x hx=>by cases hx),hbl,(fun f hf=>by cases hf)⟩;have HS1:=qh hS1;have NM:=qh (xd hd2 (by omega) (fun q hq=>by
  have:=HNM.out q hq;unfold nameOk at this;rw[Bool.and_eq_true,decide_eq_true_eq] at this;omega))
 rw[hw2] at NM;have HX2:=qh hx2;have H62:=qh h62;have H72:=qh h72;have HW2:=qh hw2;clear hx2 hp2 h62 h72 hd2 hS1 H1 hw2;go_wp2_with (go_at_call 30;refine NM.out.mono ?_);rw[<-HW2.out];rintro e w3 ⟨A,cA,rfl,hoA,b3⟩;have hp:w.heap.size<=w1.heap.size:=HB1.out.size;have HA:Hid (OpenAt B S w g w1.heap.size (w1.heap.size+1) (w1.heap.size+1+1) b D A cA (scanAt b D 0) w3):=qh ⟨⟨none,0,none,0,HS1.out.below b3,fun x hx=>by cases hx⟩,H62.out.kept b3,H72.out.kept b3,hoA.base_le (Nat.le_trans HB1.out.size HX2.out.size),(HB1.out.trans (HX2.out.mono HB1.out.size)).trans (b3.mono (Nat.le_trans HB1.out.size HX2.out.size)),hp,by omega,fun x hx=>H.out.bnd x hx,by omega⟩;have hcA:=hoA.cap;rw[List.length_map] at hcA;obtain⟨hcA1,hcA2⟩:=hcA;generalize w1.heap.size+1+1=c7 at *;generalize w1.heap.size+1=c6 at *;generalize w1.heap.size=p at *;obtain⟨L,hL⟩:∃L,L=namesD D:=⟨_,rfl⟩;rw[<-hL] at hLl hcA1;rw[<-hL];have HL:=qh hL;clear hL b3 hoA NM HS1 HX2 H62 H72 HW2 HB1;go_wp2_with fail;go_loopw [43] (fun i wr=>∃k:Nat,k<=L.length/\i=.int .i64 (k:Int)/\Hid (OpenAt B S w g p c6 c7 b D A cA (scanAt b D k) wr)) (fun i _=>L.length - (intOf i).toNat)
 case atStart=>exact⟨0,Nat.zero_le _,rfl,HA⟩
 case round =>
  clear HA;obtain⟨k,hk,rfl,HO⟩:=hrel;by_cases hlt:k<L.length
  ·have hki:(k:Int)<(L.length:Int):=(by omega);have hki0:(0:Int)<=(k:Int):=(by omega);have hkD:k<(namesD D).length:=(by rw[<-HL.out];exact hlt);have hc0:=HO.out.names.rv.cell (j:=k) (by rw[List.length_map];exact hkD);obtain⟨ob,off,rfl,hbl2,hc⟩:=hc0;rw[show((namesD D).map encStr)[k]'(by rw[List.length_map];exact hkD)=.string ⟨((namesD D)[k]).toArray⟩ from by rw[List.getElem_map]] at hc;have hfm:(namesD D)[k]∈namesD D:=List.getElem_mem hkD;have hstep:=qL b D hkD;obtain⟨f,hf⟩:∃f,f=(namesD D)[k]:=⟨_,rfl⟩;rw[<-hf] at hc hfm hstep;have hfn:=HNL.out f hfm;have hfl:f.length<=32:=by
    unfold nameOk at hfn;rw[Bool.and_eq_true,decide_eq_true_eq] at hfn;omega
   obtain⟨V,cv,O,co,hs,_⟩:=HO.out.slot;have y6:wr.cell? ⟨c6,0,none⟩=some (.pointer (some ⟨p,0,none⟩)):=HO.out.six.cell 0 rfl;have NU:Hid (Calls Tryz.prog 58 #[.pointer (some ⟨p,0,none⟩),.string ⟨f.toArray⟩] wr (SNumE (numN b f) wr)):=qh (zdZ hs.blk rfl hbl f (by omega) (HE.out.below (HO.out.bel.mono hB)));have RD:=qh (read_ok hs.di hd hfn hfm);have HCF:=qh (HCAN.out f hfm);have HST:=qh hstep;clear hs hf hfm hstep hfn hbl2;go_wp2_with (go_at_call 58;refine NU.out.mono ?_);rintro e w4 ⟨b4,x,rfl,hx⟩;have HO4:Hid (OpenAt B S w g p c6 c7 b D _ cA (scanAt b D k) w4):=qh (HO.out.below b4);have hkn:numN b f=numN b f:=rfl;cases hn:numN b f with
   | none =>
    have HO5:Hid (OpenAt B S w g p c6 c7 b D _ cA (scanAt b D (k+1)) w4):=qh (HO4.out.cast (by rw[HST.out,zbT hn]));simp only[hn,Option.isSome_none] at *;clear HO HO4 HST HCF RD NU b4 hx y6 hc hn hkn;go_wp2_with fail;go_roundw
    case rel=>exact⟨k+1,by omega,by go_num,HO5⟩
    case measure=>simp[intOf];omega
   | some n =>
    have hxn:=hx n hn;subst hxn;have hnn:=(HCF.out n hn).2;have HN:=qh hn;simp only[Option.isSome_some];clear HO NU b4 hx y6 hc hn hkn;go_wp2_with fail;refine zf (by kernel_rfl) [(0,none),(1,none),(2,none),(3,none),(4,none),(5,none),(6,none),(7,none),(8,none),(9,some [0,1,2,3,4,5,6,8])] (by kernel_rfl) (by kernel_rfl) (by decide) ?_;intro wq hwq;have hBq:Below w4.heap.size w4 wq:=(by rw[hwq];exact(Below.refl _ _).drew);have HOq:=qh (HO4.out.below hBq);obtain⟨V,cv,O,co,hs,_⟩:=HOq.out.slot;have y6:wq.cell? ⟨c6,0,none⟩=some (.pointer (some ⟨p,0,none⟩)):=HOq.out.six.cell 0 rfl;have y2:wq.cell? ⟨p,2,none⟩=some (.int .u64 ((scanAt b D k).last:Int)):=hs.blk.cell 2 rfl;have f2:wq.frozen? ⟨p,2,none⟩=false:=hs.blk.free 2;have HS:=qh hs;clear hwq hBq HO4 hs;refine ze [(⟨c6,0,none⟩,.pointer (some ⟨p,0,none⟩))] ?_;refine ze [(⟨c6,0,none⟩,.pointer (some ⟨p,0,none⟩))] ?_;iterate 2 (refine zd ?_)
    refine ze [(⟨p,2,none⟩,.int .u64 ((scanAt b D k).last:Int))] ?_;iterate 4 (refine zd ?_)
    refine zh rfl (by rfl) (fun K hK=>?_)
    go_simp
    skip
    refine zg hK ?_;clear hK K;refine zk ?_;have HO5:Hid (OpenAt B S w g p c6 c7 b D _ cA ⟨max (scanAt b D k).last n,(scanAt b D k).best,(scanAt b D k).has,(scanAt b D k).value,(scanAt b D k).old⟩ (wq.setCell ⟨p,2,none⟩ (.int .u64 (max ((scanAt b D k).last:Int) (n:Int))))):=qh (by
     have:=HOq.out.setLast (max (scanAt b D k).last n);rw[show((max (scanAt b D k).last n:Nat):Int)=max ((scanAt b D k).last:Int) (n:Int) from by omega] at this;exact this)
    obtain⟨w5,hw5⟩:∃w5,w5=wq.setCell ⟨p,2,none⟩ (.int .u64 (max ((scanAt b D k).last:Int) (n:Int))):=⟨_,rfl⟩;rw[<-hw5] at HO5 ⊢;obtain⟨V5,cv5,O5,co5,hs5,_⟩:=HO5.out.slot;have hrd:=zbu f hs5.di (by omega);unfold ReadEnd at hrd;rw[RD.out.1,RD.out.2.1] at hrd;have hdl:=RD.out.2.2;have hst:=HST.out;unfold scan1 at hst;rw[HN.out] at hst;simp only at hst;obtain⟨sl,hsl⟩:∃sl,sl=scanAt b D k:=⟨_,rfl⟩;have hsol:sl.old.length<=1000:=by
     rw[hsl];have:=(qM HCAN.out k (by omega)).sub.length_le;rw[List.length_take] at this;omega
    rw[<-hsl] at hst HO5;generalize (fget D.files f).getD []=dt at *;have RDC:=qh hrd;have HST2:=qh hst;have hdl2:dt.length<=210000000000000:=(by omega);clear y6 y2 f2 HS HOq hw5 hs5 hrd hst HST RD HN hsl;go_wp2_with (go_at_call 59;refine RDC.out.mono ?_);rintro e w6 A6 cd rfl ho6 b6;have hcap6:=ho6.cap;have HO6:=qh (HO5.out.below b6);have UF:=qh (jf A6 cd dt 0 w6 ho6.rb hcap6.1 hcap6.2 hdl2 (by omega));obtain⟨u1,u2,u3,hu⟩:∃u1 u2 u3,unfrAt dt 0=(u1,u2,u3):=⟨_,_,_,rfl⟩;rw[hu] at UF HST2;have hb6:w.heap.size<=w6.heap.size:=HO6.out.bel.size;clear RDC HO5 b6 ho6 hcap6 hu;go_wp2_with (go_at_call 60;refine UF.out.mono ?_);rintro e w7 ⟨kx,A7,c7',hkx,hkl,rfl,ho7,b7⟩;have hkx':kx=u1:=hkx.out;subst hkx';have HO7:=qh (HO6.out.below b7);have HV7:=qh (ho7.base_le (Nat.le_trans hB hb6));have HVS:Hid (∀x,A7.map (·.block)=some x->¬S x):=qh (fun x hx hs=>by
     have h1:=(ho7.blk_in x hx).1;have h2:=HO7.out.sw x hs;omega)
    have z6:w7.cell? ⟨c6,0,none⟩=some (.pointer (some ⟨p,0,none⟩)):=HO7.out.six.cell 0 rfl;have z7:w7.cell? ⟨c7,0,none⟩=some (.int .u64 (sl.best:Int)):=HO7.out.seven.cell 0 rfl;obtain⟨V7,cv7,O7,co7,hs7,_⟩:=HO7.out.slot;have z4:w7.cell? ⟨p,4,none⟩=some (.bool sl.has):=hs7.blk.cell 4 rfl;have hsz7:B<=w7.heap.size:=Nat.le_trans hB HO7.out.bel.size;clear UF HO6 ho7 b7 hkx hs7;try simp only at HST2
    by_cases h3:u3=0;rotate_left
    ·have h3b:(u3 == 0)=false:=(by simpa using h3);have HNX:Hid (scanAt b D (k+1)=⟨max sl.last n,sl.best,sl.has,sl.value,sl.old++[f]⟩):=qh (by rw[HST2.out,if_neg (fun h=>h3 h.1)]);clear HST2 h3 HV7 HVS hsz7;go_wp2_with fail;clear z6 z7 z4;refine zf (by kernel_rfl) [(0,none),(1,none),(2,none),(3,none),(4,none),(5,none),(6,some [5]),(7,some [4]),(8,none),(9,none),(10,some [0,1,2,3,4,5,9])] (by kernel_rfl) (by kernel_rfl) (by decide) ?_;intro wq hwq;have hBq:Below w7.heap.size w7 wq:=(by rw[hwq];exact(Below.refl _ _).drew);have HOq:=qh (HO7.out.below hBq);obtain⟨V8,cv8,O8,co8,hs8,hsep8⟩:=HOq.out.slot;have y6:wq.cell? ⟨c6,0,none⟩=some (.pointer (some ⟨p,0,none⟩)):=HOq.out.six.cell 0 rfl;have y5:wq.cell? ⟨p,5,none⟩=some (.slice O8 sl.old.length co8):=hs8.blk.cell 5 rfl;have HS8:=qh hs8;have HP8:=qh hsep8;have hsq:B<=wq.heap.size:=Nat.le_trans hB HOq.out.bel.size;clear hwq hBq HO7 hs8 hsep8;refine ze [(⟨c6,0,none⟩,.pointer (some ⟨p,0,none⟩))] ?_;refine ze [(⟨c6,0,none⟩,.pointer (some ⟨p,0,none⟩))] ?_;iterate 2 (refine zd ?_)
     refine ze [(⟨p,5,none⟩,.slice O8 sl.old.length co8)] ?_;iterate 1 (refine zd ?_)
     refine zh rfl (by rfl) (fun K hK=>?_)
     go_simp
     have hb2:Below wq.heap.size wq (wq.alloc (.cells #[.string ⟨f.toArray⟩] 9)):=(Below.refl _ _).alloc (Nat.le_refl _) _;have hL6:=Blk.new wq #[.string ⟨f.toArray⟩] 9;have HO10:=qh (HOq.out.below hb2);have HS10:=qh (HS8.out.below hb2);have hs10:=Nat.le_trans hsq hb2.size;obtain⟨lb,hlb⟩:∃lb,lb=wq.heap.size:=⟨_,rfl⟩;rw[<-hlb] at hL6 ⊢;generalize wq.alloc (.cells #[.string ⟨f.toArray⟩] 9)=w10 at *;clear y6 y5 hb2 hlb HOq HS8 hsq;have y6:w10.cell? ⟨c6,0,none⟩=some (.pointer (some ⟨p,0,none⟩)):=HO10.out.six.cell 0 rfl;have y5:w10.cell? ⟨p,5,none⟩=some (.slice O8 sl.old.length co8):=HS10.out.blk.cell 5 rfl;refine zg hK ?_;clear hK K;refine zh rfl (by rfl) (fun K hK=>?_);refine xi w10 (.tmp 111) (.tmp 113) (by rfl) B O8 co8 lb sl.old f (by rfl) (by rfl) HS10.out.old hL6 (by omega) hs10 ?_;intro mm A' c' w12 hm1 hm2 hrow hg12 hat;have HG12:=qh (fun m (hm:m=(sl.old++[f]).length)=>HO10.out.grow HS10.out HP8.out (by omega) hrow hg12 hat hm);have hp12:=HS10.out.blk.mods (Mods.of_grown (S:=fun x=>O8.map (·.block)=some x) hg12 (fun _ h=>h)) (HS10.out.old.ne_blk HS10.out.blk (by decide));have h612:=HO10.out.six.mods (Mods.of_grown (S:=fun x=>O8.map (·.block)=some x) hg12 (fun _ h=>h)) (HS10.out.old.ne_blk HO10.out.six (by decide));clear y6 y5 hL6 HS10 HO10 HP8 hrow hg12 hat;have y6:w12.cell? ⟨c6,0,none⟩=some (.pointer (some ⟨p,0,none⟩)):=h612.cell 0 rfl;have y5:w12.cell? ⟨p,5,none⟩=some (.slice O8 sl.old.length co8):=hp12.cell 5 rfl;have f5:w12.frozen? ⟨p,5,none⟩=false:=hp12.free 5;refine zg hK ?_;clear hK K;iterate 2 (refine zd ?_)
     refine zh rfl (by rfl) (fun K hK=>?_)
     go_simp
     skip
     refine zg hK ?_;clear hK K;refine zk ?_;have HF:Hid (OpenAt B S w g p c6 c7 b D _ cA (scanAt b D (k+1)) (w12.setCell ⟨p,5,none⟩ (.slice A' mm c'))):=qh ((HG12.out mm (by omega)).cast HNX.out);clear HG12 hp12 h612 y6 y5 f5 HNX;go_wp2_with fail;go_roundw
     case rel=>exact⟨k+1,by omega,by go_num,HF⟩
     case measure=>simp[intOf];omega
    ·subst h3;by_cases h2:u2=(dt.length:Int);rotate_left
     ·have h2b:(u2 == (dt.length:Int))=false:=(by simpa using h2);have HNX:Hid (scanAt b D (k+1)=⟨max sl.last n,sl.best,sl.has,sl.value,sl.old++[f]⟩):=qh (by rw[HST2.out,if_neg (fun h=>h2 h.2.1)]);clear HST2 h2 HV7 HVS hsz7;go_wp2_with fail;clear z6 z7 z4;refine zf (by kernel_rfl) [(0,none),(1,none),(2,none),(3,none),(4,none),(5,none),(6,some [5]),(7,some [4]),(8,none),(9,none),(10,some [0,1,2,3,4,5,9])] (by kernel_rfl) (by kernel_rfl) (by decide) ?_;intro wq hwq;have hBq:Below w7.heap.size w7 wq:=(by rw[hwq];exact(Below.refl _ _).drew);have HOq:=qh (HO7.out.below hBq);obtain⟨V8,cv8,O8,co8,hs8,hsep8⟩:=HOq.out.slot;have y6:wq.cell? ⟨c6,0,none⟩=some (.pointer (some ⟨p,0,none⟩)):=HOq.out.six.cell 0 rfl;have y5:wq.cell? ⟨p,5,none⟩=some (.slice O8 sl.old.length co8):=hs8.blk.cell 5 rfl;have HS8:=qh hs8;have HP8:=qh hsep8;have hsq:B<=wq.heap.size:=Nat.le_trans hB HOq.out.bel.size;clear hwq hBq HO7 hs8 hsep8;refine ze [(⟨c6,0,none⟩,.pointer (some ⟨p,0,none⟩))] ?_;refine ze [(⟨c6,0,none⟩,.pointer (some ⟨p,0,none⟩))] ?_;iterate 2 (refine zd ?_)
      refine ze [(⟨p,5,none⟩,.slice O8 sl.old.length co8)] ?_;iterate 1 (refine zd ?_)
      refine zh rfl (by rfl) (fun K hK=>?_)
      go_simp
      have hb2:Below wq.heap.size wq (wq.alloc (.cells #[.string ⟨f.toArray⟩] 9)):=(Below.refl _ _).alloc (Nat.le_refl _) _;have hL6:=Blk.new wq #[.string ⟨f.toArray⟩] 9;have HO10:=qh (HOq.out.below hb2);have HS10:=qh (HS8.out.below hb2);have hs10:=Nat.le_trans hsq hb2.size;obtain⟨lb,hlb⟩:∃lb,lb=wq.heap.size:=⟨_,rfl⟩;rw[<-hlb] at hL6 ⊢;generalize wq.alloc (.cells #[.string ⟨f.toArray⟩] 9)=w10 at *;clear y6 y5 hb2 hlb HOq HS8 hsq;have y6:w10.cell? ⟨c6,0,none⟩=some (.pointer (some ⟨p,0,none⟩)):=HO10.out.six.cell 0 rfl;have y5:w10.cell? ⟨p,5,none⟩=some (.slice O8 sl.old.length co8):=HS10.out.blk.cell 5 rfl;refine zg hK ?_;clear hK K;refine zh rfl (by rfl) (fun K hK=>?_);refine xi w10 (.tmp 111) (.tmp 113) (by rfl) B O8 co8 lb sl.old f (by rfl) (by rfl) HS10.out.old hL6 (by omega) hs10 ?_;intro mm A' c' w12 hm1 hm2 hrow hg12 hat;have HG12:=qh (fun m (hm:m=(sl.old++[f]).length)=>HO10.out.grow HS10.out HP8.out (by omega) hrow hg12 hat hm);have hp12:=HS10.out.blk.mods (Mods.of_grown (S:=fun x=>O8.map (·.block)=some x) hg12 (fun _ h=>h)) (HS10.out.old.ne_blk HS10.out.blk (by decide));have h612:=HO10.out.six.mods (Mods.of_grown (S:=fun x=>O8.map (·.block)=some x) hg12 (fun _ h=>h)) (HS10.out.old.ne_blk HO10.out.six (by decide));clear y6 y5 hL6 HS10 HO10 HP8 hrow hg12 hat;have y6:w12.cell? ⟨c6,0,none⟩=some (.pointer (some ⟨p,0,none⟩)):=h612.cell 0 rfl;have y5:w12.cell? ⟨p,5,none⟩=some (.slice O8 sl.old.length co8):=hp12.cell 5 rfl;have f5:w12.frozen? ⟨p,5,none⟩=false:=hp12.free 5;refine zg hK ?_;clear hK K;iterate 2 (refine zd ?_)
      refine zh rfl (by rfl) (fun K hK=>?_)
      go_simp
      skip
      refine zg hK ?_;clear hK K;refine zk ?_;have HF:Hid (OpenAt B S w g p c6 c7 b D _ cA (scanAt b D (k+1)) (w12.setCell ⟨p,5,none⟩ (.slice A' mm c'))):=qh ((HG12.out mm (by omega)).cast HNX.out);clear HG12 hp12 h612 y6 y5 f5 HNX;go_wp2_with fail;go_roundw
      case rel=>exact⟨k+1,by omega,by go_num,HF⟩
      case measure=>simp[intOf];omega
     ·subst h2;cases hh:sl.has with
      | false =>
       have HNX:Hid (scanAt b D (k+1)=⟨max sl.last n,n,true,kx,sl.old++[f]⟩):=qh (by rw[HST2.out,if_pos ⟨rfl,rfl,.inl hh⟩]);rw[hh] at z4;clear HST2 hh hsz7;go_wp2_with fail;refine zf (by kernel_rfl) [(0,none),(1,none),(2,none),(3,none),(4,some [2]),(5,none),(6,none),(7,some [0,2,6]),(8,none),(9,none),(10,some [0,1,2,3,5,6,9])] (by kernel_rfl) (by kernel_rfl) (by decide) ?_;intro wq hwq;have hBq:Below w7.heap.size w7 wq:=(by rw[hwq];exact(Below.refl _ _).drew);have HOq:=qh (HO7.out.below hBq);have HVq:=qh (HV7.out.below hBq);obtain⟨V8,cv8,O8,co8,hs8,_⟩:=HOq.out.slot;have y6:wq.cell? ⟨c6,0,none⟩=some (.pointer (some ⟨p,0,none⟩)):=HOq.out.six.cell 0 rfl;have y7:wq.cell? ⟨c7,0,none⟩=some (.int .u64 (sl.best:Int)):=HOq.out.seven.cell 0 rfl;have f7:wq.frozen? ⟨c7,0,none⟩=false:=HOq.out.seven.free 0;have HQ1:=qh (HOq.out.setBest n);have HVq1:=qh (HVq.out.mods (S:=(·=c7)) ((Mods.refl (·=c7) wq).setCell ⟨c7,0,none⟩ (.inl rfl) (.int .u64 (n:Int))) (fun k hk e=>HVq.out.ne_blk HOq.out.seven (by decide) (by rw[hk,e])));clear hwq hBq HO7 HV7 hs8 z6 z7 z4;refine ze [(⟨c6,0,none⟩,.pointer (some ⟨p,0,none⟩))] ?_;refine ze [(⟨c6,0,none⟩,.pointer (some ⟨p,0,none⟩))] ?_;iterate 2 (refine zd ?_)
       refine zh rfl (by rfl) (fun K hK=>?_)
       go_simp
       obtain⟨V9,cv9,O9,co9,hs9,_⟩:=HQ1.out.slot;generalize wq.setCell ⟨c7,0,none⟩ (.int .u64 (n:Int))=wr1 at *;have HQ2:=qh (HQ1.out.setHas);have HVq2:=qh (HVq1.out.mods (S:=(·=p)) ((Mods.refl (·=p) wr1).setCell ⟨p,4,none⟩ (.inl rfl) (.bool true)) (fun k hk e=>HVq1.out.ne_blk hs9.blk (by decide) (by rw[hk,e])));clear y6 y7 f7;have y6:wr1.cell? ⟨c6,0,none⟩=some (.pointer (some ⟨p,0,none⟩)):=HQ1.out.six.cell 0 rfl;have y4:wr1.cell? ⟨p,4,none⟩=some (.bool sl.has):=hs9.blk.cell 4 rfl;have f4:wr1.frozen? ⟨p,4,none⟩=false:=hs9.blk.free 4;clear hs9 HVq HVq1 HOq HQ1;refine zg hK ?_;clear hK K;iterate 2 (refine zd ?_)
       refine zh rfl (by rfl) (fun K hK=>?_)
       go_simp
       obtain⟨V9,cv9,O9,co9,hs9,_⟩:=HQ2.out.slot;generalize wr1.setCell ⟨p,4,none⟩ (.bool true)=wr2 at *;have HQ3:=qh (HQ2.out.setVal HVq2.out HVS.out);clear y6 y4 f4;have y6:wr2.cell? ⟨c6,0,none⟩=some (.pointer (some ⟨p,0,none⟩)):=HQ2.out.six.cell 0 rfl;have y3:wr2.cell? ⟨p,3,none⟩=some (.slice V9 sl.value.length cv9):=hs9.blk.cell 3 rfl;have f3:wr2.frozen? ⟨p,3,none⟩=false:=hs9.blk.free 3;clear hs9 HVq2 HQ2;refine zg hK ?_;clear hK K;iterate 2 (refine zd ?_)
       refine zh rfl (by rfl) (fun K hK=>?_)
       go_simp
       skip
       refine zg hK ?_;clear hK K;refine zk ?_;clear y6 y3 f3;generalize wr2.setCell ⟨p,3,none⟩ (.slice A7 kx.length c7')=w8 at *;go_wp2_with fail;refine zf (by kernel_rfl) [(0,none),(1,none),(2,none),(3,none),(4,none),(5,none),(6,some [5]),(7,some [4]),(8,none),(9,none),(10,some [0,1,2,3,4,5,9])] (by kernel_rfl) (by kernel_rfl) (by decide) ?_;intro wq hwq;have hBq:Below w8.heap.size w8 wq:=(by rw[hwq];exact(Below.refl _ _).drew);have HOq:=qh (HQ3.out.below hBq);obtain⟨V8,cv8,O8,co8,hs8,hsep8⟩:=HOq.out.slot;have y6:wq.cell? ⟨c6,0,none⟩=some (.pointer (some ⟨p,0,none⟩)):=HOq.out.six.cell 0 rfl;have y5:wq.cell? ⟨p,5,none⟩=some (.slice O8 sl.old.length co8):=hs8.blk.cell 5 rfl;have HS8:=qh hs8;have HP8:=qh hsep8;have hsq:B<=wq.heap.size:=Nat.le_trans hB HOq.out.bel.size;clear hwq hBq HQ3 hs8 hsep8;refine ze [(⟨c6,0,none⟩,.pointer (some ⟨p,0,none⟩))] ?_;refine ze [(⟨c6,0,none⟩,.pointer (some ⟨p,0,none⟩))] ?_;iterate 2 (refine zd ?_)
       refine ze [(⟨p,5,none⟩,.slice O8 sl.old.length co8)] ?_;iterate 1 (refine zd ?_)
       refine zh rfl (by rfl) (fun K hK=>?_)
       go_simp
       have hb2:Below wq.heap.size wq (wq.alloc (.cells #[.string ⟨f.toArray⟩] 9)):=(Below.refl _ _).alloc (Nat.le_refl _) _;have hL6:=Blk.new wq #[.string ⟨f.toArray⟩] 9;have HO10:=qh (HOq.out.below hb2);have HS10:=qh (HS8.out.below hb2);have hs10:=Nat.le_trans hsq hb2.size;obtain⟨lb,hlb⟩:∃lb,lb=wq.heap.size:=⟨_,rfl⟩;rw[<-hlb] at hL6 ⊢;generalize wq.alloc (.cells #[.string ⟨f.toArray⟩] 9)=w10 at *;clear y6 y5 hb2 hlb HOq HS8 hsq;have y6:w10.cell? ⟨c6,0,none⟩=some (.pointer (some ⟨p,0,none⟩)):=HO10.out.six.cell 0 rfl;have y5:w10.cell? ⟨p,5,none⟩=some (.slice O8 sl.old.length co8):=HS10.out.blk.cell 5 rfl;refine zg hK ?_;clear hK K;refine zh rfl (by rfl) (fun K hK=>?_);refine xi w10 (.tmp 111) (.tmp 113) (by rfl) B O8 co8 lb sl.old f (by rfl) (by rfl) HS10.out.old hL6 (by omega) hs10 ?_;intro mm A' c' w12 hm1 hm2 hrow hg12 hat;have HG12:=qh (fun m (hm:m=(sl.old++[f]).length)=>HO10.out.grow HS10.out HP8.out (by omega) hrow hg12 hat hm);have hp12:=HS10.out.blk.mods (Mods.of_grown (S:=fun x=>O8.map (·.block)=some x) hg12 (fun _ h=>h)) (HS10.out.old.ne_blk HS10.out.blk (by decide));have h612:=HO10.out.six.mods (Mods.of_grown (S:=fun x=>O8.map (·.block)=some x) hg12 (fun _ h=>h)) (HS10.out.old.ne_blk HO10.out.six (by decide));clear y6 y5 hL6 HS10 HO10 HP8 hrow hg12 hat;have y6:w12.cell? ⟨c6,0,none⟩=some (.pointer (some ⟨p,0,none⟩)):=h612.cell 0 rfl;have y5:w12.cell? ⟨p,5,none⟩=some (.slice O8 sl.old.length co8):=hp12.cell 5 rfl;have f5:w12.frozen? ⟨p,5,none⟩=false:=hp12.free 5;refine zg hK ?_;clear hK K;iterate 2 (refine zd ?_)
       refine zh rfl (by rfl) (fun K hK=>?_)
       go_simp
       skip
       refine zg hK ?_;clear hK K;refine zk ?_;have HF:Hid (OpenAt B S w g p c6 c7 b D _ cA (scanAt b D (k+1)) (w12.setCell ⟨p,5,none⟩ (.slice A' mm c'))):=qh ((HG12.out mm (by omega)).cast HNX.out);clear HG12 hp12 h612 y6 y5 f5 HNX;go_wp2_with fail;go_roundw
       case rel=>exact⟨k+1,by omega,by go_num,HF⟩
       case measure=>simp[intOf];omega
      | true =>
       rw[hh] at z4;by_cases hbn:sl.best<n
       ·have hbd:decide (((sl.best:Nat):Int)<(n:Int))=true:=decide_eq_true (by omega);have hbd2:((sl.best:Nat):Int)<(n:Int):=(by omega);have HNX:Hid (scanAt b D (k+1)=⟨max sl.last n,n,true,kx,sl.old++[f]⟩):=qh (by rw[HST2.out,if_pos ⟨rfl,rfl,.inr hbn⟩]);clear HST2 hh hsz7 hbn;go_wp2_with fail;refine zf (by kernel_rfl) [(0,none),(1,none),(2,none),(3,none),(4,some [2]),(5,none),(6,none),(7,some [0,2,6]),(8,none),(9,none),(10,some [0,1,2,3,5,6,9])] (by kernel_rfl) (by kernel_rfl) (by decide) ?_;intro wq hwq;have hBq:Below w7.heap.size w7 wq:=(by rw[hwq];exact(Below.refl _ _).drew);have HOq:=qh (HO7.out.below hBq);have HVq:=qh (HV7.out.below hBq);obtain⟨V8,cv8,O8,co8,hs8,_⟩:=HOq.out.slot;have y6:wq.cell? ⟨c6,0,none⟩=some (.pointer (some ⟨p,0,none⟩)):=HOq.out.six.cell 0 rfl;have y7:wq.cell? ⟨c7,0,none⟩=some (.int .u64 (sl.best:Int)):=HOq.out.seven.cell 0 rfl;have f7:wq.frozen? ⟨c7,0,none⟩=false:=HOq.out.seven.free 0;have HQ1:=qh (HOq.out.setBest n);have HVq1:=qh (HVq.out.mods (S:=(·=c7)) ((Mods.refl (·=c7) wq).setCell ⟨c7,0,none⟩ (.inl rfl) (.int .u64 (n:Int))) (fun k hk e=>HVq.out.ne_blk HOq.out.seven (by decide) (by rw[hk,e])));clear hwq hBq HO7 HV7 hs8 z6 z7 z4;refine ze [(⟨c6,0,none⟩,.pointer (some ⟨p,0,none⟩))] ?_;refine ze [(⟨c6,0,none⟩,.pointer (some ⟨p,0,none⟩))] ?_;iterate 2 (refine zd ?_)
        refine zh rfl (by rfl) (fun K hK=>?_)
        go_simp
        obtain⟨V9,cv9,O9,co9,hs9,_⟩:=HQ1.out.slot;generalize wq.setCell ⟨c7,0,none⟩ (.int .u64 (n:Int))=wr1 at *;have HQ2:=qh (HQ1.out.setHas);have HVq2:=qh (HVq1.out.mods (S:=(·=p)) ((Mods.refl (·=p) wr1).setCell ⟨p,4,none⟩ (.inl rfl) (.bool true)) (fun k hk e=>HVq1.out.ne_blk hs9.blk (by decide) (by rw[hk,e])));clear y6 y7 f7;have y6:wr1.cell? ⟨c6,0,none⟩=some (.pointer (some ⟨p,0,none⟩)):=HQ1.out.six.cell 0 rfl;have y4:wr1.cell? ⟨p,4,none⟩=some (.bool sl.has):=hs9.blk.cell 4 rfl;have f4:wr1.frozen? ⟨p,4,none⟩=false:=hs9.blk.free 4;clear hs9 HVq HVq1 HOq HQ1;refine zg hK ?_;clear hK K;iterate 2 (refine zd ?_)
        refine zh rfl (by rfl) (fun K hK=>?_)
        go_simp
        obtain⟨V9,cv9,O9,co9,hs9,_⟩:=HQ2.out.slot;generalize wr1.setCell ⟨p,4,none⟩ (.bool true)=wr2 at *;have HQ3:=qh (HQ2.out.setVal HVq2.out HVS.out);clear y6 y4 f4;have y6:wr2.cell? ⟨c6,0,none⟩=some (.pointer (some ⟨p,0,none⟩)):=HQ2.out.six.cell 0 rfl;have y3:wr2.cell? ⟨p,3,none⟩=some (.slice V9 sl.value.length cv9):=hs9.blk.cell 3 rfl;have f3:wr2.frozen? ⟨p,3,none⟩=false:=hs9.blk.free 3;clear hs9 HVq2 HQ2;refine zg hK ?_;clear hK K;iterate 2 (refine zd ?_)
        refine zh rfl (by rfl) (fun K hK=>?_)
        go_simp
        skip
        refine zg hK ?_;clear hK K;refine zk ?_;clear y6 y3 f3;generalize wr2.setCell ⟨p,3,none⟩ (.slice A7 kx.length c7')=w8 at *;go_wp2_with fail;refine zf (by kernel_rfl) [(0,none),(1,none),(2,none),(3,none),(4,none),(5,none),(6,some [5]),(7,some [4]),(8,none),(9,none),(10,some [0,1,2,3,4,5,9])] (by kernel_rfl) (by kernel_rfl) (by decide) ?_;intro wq hwq;have hBq:Below w8.heap.size w8 wq:=(by rw[hwq];exact(Below.refl _ _).drew);have HOq:=qh (HQ3.out.below hBq);obtain⟨V8,cv8,O8,co8,hs8,hsep8⟩:=HOq.out.slot;have y6:wq.cell? ⟨c6,0,none⟩=some (.pointer (some ⟨p,0,none⟩)):=HOq.out.six.cell 0 rfl;have y5:wq.cell? ⟨p,5,none⟩=some (.slice O8 sl.old.length co8):=hs8.blk.cell 5 rfl;have HS8:=qh hs8;have HP8:=qh hsep8;have hsq:B<=wq.heap.size:=Nat.le_trans hB HOq.out.bel.size;clear hwq hBq HQ3 hs8 hsep8;refine ze [(⟨c6,0,none⟩,.pointer (some ⟨p,0,none⟩))] ?_;refine ze [(⟨c6,0,none⟩,.pointer (some ⟨p,0,none⟩))] ?_;iterate 2 (refine zd ?_)
        refine ze [(⟨p,5,none⟩,.slice O8 sl.old.length co8)] ?_;iterate 1 (refine zd ?_)
        refine zh rfl (by rfl) (fun K hK=>?_)
        go_simp
        have hb2:Below wq.heap.size wq (wq.alloc (.cells #[.string ⟨f.toArray⟩] 9)):=(Below.refl _ _).alloc (Nat.le_refl _) _;have hL6:=Blk.new wq #[.string ⟨f.toArray⟩] 9;have HO10:=qh (HOq.out.below hb2);have HS10:=qh (HS8.out.below hb2);have hs10:=Nat.le_trans hsq hb2.size;obtain⟨lb,hlb⟩:∃lb,lb=wq.heap.size:=⟨_,rfl⟩;rw[<-hlb] at hL6 ⊢;generalize wq.alloc (.cells #[.string ⟨f.toArray⟩] 9)=w10 at *;clear y6 y5 hb2 hlb HOq HS8 hsq;have y6:w10.cell? ⟨c6,0,none⟩=some (.pointer (some ⟨p,0,none⟩)):=HO10.out.six.cell 0 rfl;have y5:w10.cell? ⟨p,5,none⟩=some (.slice O8 sl.old.length co8):=HS10.out.blk.cell 5 rfl;refine zg hK ?_;clear hK K;refine zh rfl (by rfl) (fun K hK=>?_);refine xi w10 (.tmp 111) (.tmp 113) (by rfl) B O8 co8 lb sl.old f (by rfl) (by rfl) HS10.out.old hL6 (by omega) hs10 ?_;intro mm A' c' w12 hm1 hm2 hrow hg12 hat;have HG12:=qh (fun m (hm:m=(sl.old++[f]).length)=>HO10.out.grow HS10.out HP8.out (by omega) hrow hg12 hat hm);have hp12:=HS10.out.blk.mods (Mods.of_grown (S:=fun x=>O8.map (·.block)=some x) hg12 (fun _ h=>h)) (HS10.out.old.ne_blk HS10.out.blk (by decide));have h612:=HO10.out.six.mods (Mods.of_grown (S:=fun x=>O8.map (·.block)=some x) hg12 (fun _ h=>h)) (HS10.out.old.ne_blk HO10.out.six (by decide));clear y6 y5 hL6 HS10 HO10 HP8 hrow hg12 hat;have y6:w12.cell? ⟨c6,0,none⟩=some (.pointer (some ⟨p,0,none⟩)):=h612.cell 0 rfl;have y5:w12.cell? ⟨p,5,none⟩=some (.slice O8 sl.old.length co8):=hp12.cell 5 rfl;have f5:w12.frozen? ⟨p,5,none⟩=false:=hp12.free 5;refine zg hK ?_;clear hK K;iterate 2 (refine zd ?_)
        refine zh rfl (by rfl) (fun K hK=>?_)
        go_simp
        skip
        refine zg hK ?_;clear hK K;refine zk ?_;have HF:Hid (OpenAt B S w g p c6 c7 b D _ cA (scanAt b D (k+1)) (w12.setCell ⟨p,5,none⟩ (.slice A' mm c'))):=qh ((HG12.out mm (by omega)).cast HNX.out);clear HG12 hp12 h612 y6 y5 f5 HNX;go_wp2_with fail;go_roundw
        case rel=>exact⟨k+1,by omega,by go_num,HF⟩
        case measure=>simp[intOf];omega
       ·have hbd:decide (((sl.best:Nat):Int)<(n:Int))=false:=decide_eq_false (by omega);have hbd2:¬((sl.best:Nat):Int)<(n:Int):=(by omega);have HNX:Hid (scanAt b D (k+1)=⟨max sl.last n,sl.best,sl.has,sl.value,sl.old++[f]⟩):=qh (by rw[HST2.out,if_neg (fun h=>by rcases h.2.2 with h | h;(rw[hh] at h;cases h);exact hbn h)]);clear HST2 HV7 HVS hsz7 hbn;go_wp2_with fail;clear z6 z7 z4;refine zf (by kernel_rfl) [(0,none),(1,none),(2,none),(3,none),(4,none),(5,none),(6,some [5]),(7,some [4]),(8,none),(9,none),(10,some [0,1,2,3,4,5,9])] (by kernel_rfl) (by kernel_rfl) (by decide) ?_;intro wq hwq;have hBq:Below w7.heap.size w7 wq:=(by rw[hwq];exact(Below.refl _ _).drew);have HOq:=qh (HO7.out.below hBq);obtain⟨V8,cv8,O8,co8,hs8,hsep8⟩:=HOq.out.slot;have y6:wq.cell? ⟨c6,0,none⟩=some (.pointer (some ⟨p,0,none⟩)):=HOq.out.six.cell 0 rfl;have y5:wq.cell? ⟨p,5,none⟩=some (.slice O8 sl.old.length co8):=hs8.blk.cell 5 rfl;have HS8:=qh hs8;have HP8:=qh hsep8;have hsq:B<=wq.heap.size:=Nat.le_trans hB HOq.out.bel.size;clear hwq hBq HO7 hs8 hsep8;refine ze [(⟨c6,0,none⟩,.pointer (some ⟨p,0,none⟩))] ?_;refine ze [(⟨c6,0,none⟩,.pointer (some ⟨p,0,none⟩))] ?_;iterate 2 (refine zd ?_)
        refine ze [(⟨p,5,none⟩,.slice O8 sl.old.length co8)] ?_;iterate 1 (refine zd ?_)
        refine zh rfl (by rfl) (fun K hK=>?_)
        go_simp
        have hb2:Below wq.heap.size wq (wq.alloc (.cells #[.string ⟨f.toArray⟩] 9)):=(Below.refl _ _).alloc (Nat.le_refl _) _;have hL6:=Blk.new wq #[.string ⟨f.toArray⟩] 9;have HO10:=qh (HOq.out.below hb2);have HS10:=qh (HS8.out.below hb2);have hs10:=Nat.le_trans hsq hb2.size;obtain⟨lb,hlb⟩:∃lb,lb=wq.heap.size:=⟨_,rfl⟩;rw[<-hlb] at hL6 ⊢;generalize wq.alloc (.cells #[.string ⟨f.toArray⟩] 9)=w10 at *;clear y6 y5 hb2 hlb HOq HS8 hsq;have y6:w10.cell? ⟨c6,0,none⟩=some (.pointer (some ⟨p,0,none⟩)):=HO10.out.six.cell 0 rfl;have y5:w10.cell? ⟨p,5,none⟩=some (.slice O8 sl.old.length co8):=HS10.out.blk.cell 5 rfl;refine zg hK ?_;clear hK K;refine zh rfl (by rfl) (fun K hK=>?_);refine xi w10 (.tmp 111) (.tmp 113) (by rfl) B O8 co8 lb sl.old f (by rfl) (by rfl) HS10.out.old hL6 (by omega) hs10 ?_;intro mm A' c' w12 hm1 hm2 hrow hg12 hat;have HG12:=qh (fun m (hm:m=(sl.old++[f]).length)=>HO10.out.grow HS10.out HP8.out (by omega) hrow hg12 hat hm);have hp12:=HS10.out.blk.mods (Mods.of_grown (S:=fun x=>O8.map (·.block)=some x) hg12 (fun _ h=>h)) (HS10.out.old.ne_blk HS10.out.blk (by decide));have h612:=HO10.out.six.mods (Mods.of_grown (S:=fun x=>O8.map (·.block)=some x) hg12 (fun _ h=>h)) (HS10.out.old.ne_blk HO10.out.six (by decide));clear y6 y5 hL6 HS10 HO10 HP8 hrow hg12 hat;have y6:w12.cell? ⟨c6,0,none⟩=some (.pointer (some ⟨p,0,none⟩)):=h612.cell 0 rfl;have y5:w12.cell? ⟨p,5,none⟩=some (.slice O8 sl.old.length co8):=hp12.cell 5 rfl;have f5:w12.frozen? ⟨p,5,none⟩=false:=hp12.free 5;refine zg hK ?_;clear hK K;iterate 2 (refine zd ?_)
        refine zh rfl (by rfl) (fun K hK=>?_)
        go_simp
        skip
        refine zg hK ?_;clear hK K;refine zk ?_;have HF:Hid (OpenAt B S w g p c6 c7 b D _ cA (scanAt b D (k+1)) (w12.setCell ⟨p,5,none⟩ (.slice A' mm c'))):=qh ((HG12.out mm (by omega)).cast HNX.out);clear HG12 hp12 h612 y6 y5 f5 HNX;go_wp2_with fail;go_roundw
        case rel=>exact⟨k+1,by omega,by go_num,HF⟩
        case measure=>simp[intOf];omega
  ·obtain rfl:k=L.length:=(by omega);have HO2:Hid (OpenAt B S w g p c6 c7 b D A cA (scanD b D) wr):=qh (HO.out.cast (by rw[HL.out,zaC]));have hso:=qM HCAN.out (namesD D).length (Nat.le_refl _);rw[zaC,List.take_length] at hso;obtain⟨V,cv,O,co,hs,hsep⟩:=HO2.out.slot;have hnd:(scanD b D).old.Nodup:=(qy hs.di).sublist hso.sub;have hol:(scanD b D).old.length<=1000:=by
    have:=hso.sub.length_le;rw[<-HL.out] at this;omega
   have hs1:=HS1T.out;have hok:=HOK.out;unfold openD restN at hok;have hopd:openD b D=cleanD (restN b (scanD b D)) D:=rfl;unfold restN at hopd;obtain⟨sc,hsc⟩:∃sc,sc=scanD b D:=⟨_,rfl⟩;rw[<-hsc] at HO2 hso hs hnd hol hok hopd hs1;have y6:wr.cell? ⟨c6,0,none⟩=some (.pointer (some ⟨p,0,none⟩)):=HO2.out.six.cell 0 rfl;have y4:wr.cell? ⟨p,4,none⟩=some (.bool sc.has):=hs.blk.cell 4 rfl;have hBr:B<=wr.heap.size:=Nat.le_trans hB HO2.out.bel.size;clear HO HOK hsc;cases hh:sc.has with
   | false =>
    rw[hh] at y4 hok hopd;rw[if_neg (by simp)] at hok hopd;have hcc:=qP hs hBr (by show D.cnt+sc.old.length<=_;omega);rw[show(slotAt b sc).old=sc.old from rfl,if_pos (zcR hok),hok] at hcc;have CC:=qh hcc;have HOP:=qh hopd;have HHS:Hid ((slotAt b sc).has=false):=qh hh;have HOS:Hid (s1={ slotAt b sc with old:=[],down:=false || decide ((0:Int)=11) }):=qh (by rw[hs1];unfold openS slotAt;rw[hh,if_neg (by simp)];rfl);have HM:Hid (Mods S w wr):=qh (Mods.of_below HO2.out.bel);have HG:=qh HO2.out.gp;have HSW:=qh HO2.out.sw;have HX6:=qh HO2.out.six;have HG6:=qh HO2.out.g6;have hsp:c6≠p:=fun e=>by
     have h1:wr.heap[p]?=_:=hs.blk;have h2:=HX6.out;rw[e] at h2;have h2':wr.heap[p]?=_:=h2;rw[h1] at h2';injection h2' with h2'
     injection h2' with _ ht
     exact absurd ht (by decide)
    have HSP:=qh hsp;clear hs hsep hnd hok hopd hcc hh HO2 hso hsp hs1 HS1T;go_wp2_with (go_at_call 64;refine CC.out.mono ?_);rintro e w5 ⟨rfl,S',V',cv',O',co',hR,hN,hM,_⟩;have y6:w5.cell? ⟨c6,0,none⟩=some (.pointer (some ⟨p,0,none⟩)):=(HX6.out.mods hM (fun h=>by
     rcases h with h | h
     ·have:=HSW.out _ h;have:=HG6.out;omega
     ·exact HSP.out h)).cell 0 rfl
    have y4:w5.cell? ⟨p,4,none⟩=some (.bool (slotAt b sc).has):=hR.blk.cell 4 rfl;have HF:Hid (OpenEnd B S w g s1 (openD b D).2 (.returned (.tuple #[.pointer (some ⟨p,0,none⟩),.int .i64 0])) w5):=qh (by
     refine⟨p,S',V',cv',O',co',rfl,?_,fun x hx=>?_,?_,HG.out⟩
     ·rw[HOS.out,HOP.out];exact hR
     ·rcases hN x hx with h | h
      ·exact .inl h
      ·exact .inr (Nat.le_trans HM.out.size h)
     ·exact HM.out.trans hM (fun i hi=>by
       rcases hi with hi | hi
       ·exact .inl hi
       ·subst hi;exact .inr HG.out))
    rw[HHS.out] at y4;clear hR hN hM CC HM HX6;go_wp2_with fail
    go_ret2
    exact HF.out
   | true =>
    rw[hh] at y4 hok hopd;rw[if_pos rfl] at hok hopd;obtain⟨l1,l2,hl,n1,n2,hfil⟩:=zd3 hnd (hso.mem hh);rw[hfil] at hok hopd;have hlen:sc.old.length=l1.length+1+l2.length:=(by rw[hl];simp;omega);have hO:∃go,O=some ⟨go,0,none⟩:=by
     rcases hs.old.form with⟨_,_,h⟩ | ⟨go,e,_⟩
     ·have h':sc.old=[]:=List.map_eq_nil_iff.1 h;rw[h'] at hlen;simp at hlen;omega
     ·exact⟨go,e⟩
    obtain⟨go,rfl⟩:=hO;have HHS:Hid ((slotAt b sc).has=true):=qh hh;have HOS:Hid (s1=⟨b,sc.last,sc.value,true,[fileN b sc.best],false⟩):=qh (by rw[hs1];unfold openS;rw[hh,if_pos rfl]);have HOP:=qh hopd;have HOKK:=qh hok;have HS:=qh hs;have HSEP:=qh hsep;have HLL:=qh hl;have HN1:=qh n1;have HN2:=qh n2;have HLEN:=qh hlen;have hbest:=hso.best;have hol12:l1.length+l2.length<=1000:=(by omega);have hon:Hid (∀f∈l1++l2,f.length<=1000):=qh (fun f hf=>hs.on f (by
     show f∈sc.old;rw[hl]
     rcases List.mem_append.1 hf with h | h
     ·exact List.mem_append_left _ h
     ·exact List.mem_append_right _ (List.mem_cons_of_mem _ h)))
    have hmf:∀(fn:Fn) (first cap:Array Value) (w:World),(Instr.makeFunc fn first cap).run Tryz.prog w=.ok (.func fn first cap) w:=fun _ _ _ _=>rfl
    clear hs hsep hnd hok hopd hh hso hs1 HS1T hl n1 n2 hfil hlen;go_wp2_with fail;refine zf (by kernel_rfl) [(0,none),(1,none),(2,none),(3,none),(4,none),(5,none),(6,some [4,5]),(7,none),(8,none),(9,some [0,1,2,3,4,5,8])] (by kernel_rfl) (by kernel_rfl) (by decide) ?_;intro wq hwq;have hBq:Below wr.heap.size wr wq:=(by rw[hwq];exact(Below.refl _ _).drew);have HOq:=qh (HO2.out.below hBq);have HSq:=qh (HS.out.below hBq);have y6:wq.cell? ⟨c6,0,none⟩=some (.pointer (some ⟨p,0,none⟩)):=HOq.out.six.cell 0 rfl;have y5:wq.cell? ⟨p,5,none⟩=some (.slice (some ⟨go,0,none⟩) sc.old.length co):=HSq.out.blk.cell 5 rfl;have hBq2:B<=wq.heap.size:=Nat.le_trans hB HOq.out.bel.size;have CAq:=qh (show CA B p c6 c7 b sc.best wq from⟨HOq.out.six,HOq.out.seven,⟨_,HSq.out.blk,rfl⟩,HE.out.below (HOq.out.bel.mono hB),hBq2,hbl,hbest⟩);have ST:=qh (zd0 CAq.out l1 l2 go co sc.old.length HLEN.out (by rw[<-HLL.out];exact HSq.out.old) HN1.out HN2.out (by omega));clear hwq hBq HO2 HS y4;refine ze [(⟨c6,0,none⟩,.pointer (some ⟨p,0,none⟩))] ?_;refine ze [(⟨c6,0,none⟩,.pointer (some ⟨p,0,none⟩))] ?_;iterate 2 (refine zd ?_)
    refine ze [(⟨p,5,none⟩,.slice (some ⟨go,0,none⟩) sc.old.length co)] ?_;iterate 1 (refine zd ?_)
    refine zh rfl (by rfl) (fun K hK=>?_)
    go_simp
    refine ST.out.mono ?_;rintro e w5 ⟨rfl,ho5,m5⟩;have hgo:=(HSq.out.old.blk_lt go rfl).1;have n6:c6≠go:=fun e=>HSq.out.old.ne_blk HOq.out.six (by decide) (by rw[e];rfl)
    have n7:c7≠go:=fun e=>HSq.out.old.ne_blk HOq.out.seven (by decide) (by rw[e];rfl)
    have np:p≠go:=fun e=>HSq.out.old.ne_blk HSq.out.blk (by decide) (by rw[e];rfl)
    have HC5:=qh (CAq.out.mods m5 hgo n6 n7 np);have HR5:=qh (HSq.out.row (m5.mono (fun i _ e=>by subst e;rfl)) (l:=l1++l2) List.length_append.symm ho5 hon.out);have HM5:Hid (Below w.heap.size w w5):=qh (Mods.old HOq.out.bel m5 HOq.out.bel.size (fun i _ e=>by subst e;exact(HSEP.out i rfl).1));have hp5:=HSq.out.blk.mods m5 np;clear y6 y5 ST CAq HSq;have y6:w5.cell? ⟨c6,0,none⟩=some (.pointer (some ⟨p,0,none⟩)):=HC5.out.six.cell 0 rfl;have y5:w5.cell? ⟨p,5,none⟩=some (.slice (some ⟨go,0,none⟩) sc.old.length co):=hp5.cell 5 rfl;have f5:w5.frozen? ⟨p,5,none⟩=false:=hp5.free 5;have g6':=HOq.out.g6;have g7':=HOq.out.g7;have gp':=HOq.out.gp;have HSW:=qh HOq.out.sw;clear HOq;refine zg hK ?_;clear hK K;iterate 2 (refine zd ?_)
    refine zh rfl (by rfl) (fun K hK=>?_)
    go_simp
    skip
    refine zg hK ?_;clear hK K;refine zk ?_;have hmm:Mods (·=p) w5 (w5.setCell ⟨p,5,none⟩ (.slice (some ⟨go,0,none⟩) (l1.length+l2.length) co)):=(Mods.refl (·=p) w5).setCell ⟨p,_,none⟩ (.inl rfl) _;have q6:c6≠p:=fun e=>by
     have h1:w5.heap[p]?=_:=hp5;have h2:=HC5.out.six;rw[e] at h2;have h2':w5.heap[p]?=_:=h2;rw[h1] at h2';injection h2' with h2'
     injection h2' with _ ht
     exact absurd ht (by decide)
    have q7:c7≠p:=fun e=>by
     have h1:w5.heap[p]?=_:=hp5;have h2:=HC5.out.seven;rw[e] at h2;have h2':w5.heap[p]?=_:=h2;rw[h1] at h2';injection h2' with h2'
     injection h2' with _ ht
     exact absurd ht (by decide)
    have HA6:=qh (HC5.out.six.mods hmm q6);have HA7:=qh (HC5.out.seven.mods hmm q7);have HEA:Hid (SEnv B (w5.setCell ⟨p,5,none⟩ (.slice (some ⟨go,0,none⟩) (l1.length+l2.length) co))):=qh (HC5.out.env.below (Mods.old (Below.refl _ _) hmm HC5.out.lo (fun i _ e=>by subst e;omega)));have HBA:Hid (Below w.heap.size w (w5.setCell ⟨p,5,none⟩ (.slice (some ⟨go,0,none⟩) (l1.length+l2.length) co))):=qh (Mods.old HM5.out hmm HM5.out.size (fun i _ e=>by subst e;exact gp'));clear hp5 hmm HC5 HM5 y6 y5 f5;generalize w5.setCell ⟨p,5,none⟩ (.slice (some ⟨go,0,none⟩) (l1.length+l2.length) co)=w6 at *;have hB6:B<=w6.heap.size:=Nat.le_trans hB HBA.out.size;have hcc:=qP HR5.out hB6 (by show D.cnt+(l1++l2).length<=_;rw[List.length_append];omega);rw[show({ slotAt b sc with old:=l1++l2 }:Sl).old=l1++l2 from rfl,if_pos (zcR HOKK.out),HOKK.out] at hcc;have CC:=qh hcc;have y6:w6.cell? ⟨c6,0,none⟩=some (.pointer (some ⟨p,0,none⟩)):=HA6.out.cell 0 rfl;clear hcc HR5;go_wp2_with (go_at_call 64;refine CC.out.mono ?_);rintro e w7 ⟨rfl,S',V',cv',O',co',hR,hN,hM,_⟩;have y4:w7.cell? ⟨p,4,none⟩=some (.bool (slotAt b sc).has):=hR.blk.cell 4 rfl;rw[HHS.out] at y4;have HR7:=qh hR;have hns:∀x,w.heap.size<=x->x≠p->¬(S x\/x=p):=fun x hx hne h=>by
     rcases h with h | h
     ·have:=HSW.out x h;omega
     ·exact hne h
    have HZ6:=qh (HA6.out.mods hM (hns _ g6' q6));have HZ7:=qh (HA7.out.mods hM (hns _ g7' q7));have HEZ:Hid (SEnv B w7):=qh (HEA.out.below (Mods.old (Below.refl _ _) hM hB6 (fun i _ h=>by
     rcases h with h | h
     ·exact HSG.out i h
     ·subst h;omega)))
    have HMZ:Hid (Mods S w w7):=qh ((Mods.of_below HBA.out).trans hM (fun i hi=>by
     rcases hi with hi | hi
     ·exact .inl hi
     ·subst hi;exact .inr gp'))
    have HNZ:Hid (∀x,S' x->S x\/w.heap.size<=x):=qh (fun x hx=>by
     rcases hN x hx with h | h
     ·exact .inl h
     ·exact .inr (Nat.le_trans HBA.out.size h))
    have y6:w7.cell? ⟨c6,0,none⟩=some (.pointer (some ⟨p,0,none⟩)):=HZ6.out.cell 0 rfl;have hB7:B<=w7.heap.size:=Nat.le_trans hB HMZ.out.size;clear hR hN hM CC HA6 HA7 HEA HBA hns;go_wp2_with fail;refine zf (by kernel_rfl) [(0,none),(1,none),(2,none),(3,some [1,2]),(4,some []),(5,none),(6,none),(7,some [0,1,2,6])] (by kernel_rfl) (by kernel_rfl) (by decide) ?_;intro wq hwq;have hBq:Below w7.heap.size w7 wq:=(by rw[hwq];exact(Below.refl _ _).drew);have HRq:=qh (HR7.out.below hBq);have HMq:=qh (HMZ.out.below hBq);have H6q:=qh (HZ6.out.kept hBq);have H7q:=qh (HZ7.out.kept hBq);have hBq2:B<=wq.heap.size:=Nat.le_trans hB7 hBq.size;have y6:wq.cell? ⟨c6,0,none⟩=some (.pointer (some ⟨p,0,none⟩)):=H6q.out.cell 0 rfl;have y7:wq.cell? ⟨c7,0,none⟩=some (.int .u64 (sc.best:Int)):=H7q.out.cell 0 rfl;have FI:=qh (zbc (b:=b) HRq.out.blk rfl hbl sc.best hbest (HEZ.out.below (hBq.mono hB7)) hBq2);clear hwq hBq y4 HR7 HMZ HZ6 HZ7;refine ze [(⟨c6,0,none⟩,.pointer (some ⟨p,0,none⟩))] ?_;refine ze [(⟨c6,0,none⟩,.pointer (some ⟨p,0,none⟩))] ?_;refine ze [(⟨c7,0,none⟩,.int .u64 (sc.best:Int))] ?_;refine zh rfl (by rfl) (fun K hK=>?_)
    go_simp
    refine FI.out.mono ?_;rintro e w8 ⟨rfl,b8⟩;have HR8:=qh (HRq.out.below b8);have HM8:=qh (HMq.out.below b8);have H68:=qh (H6q.out.kept b8);have H78:=qh (H7q.out.kept b8);have hB8:B<=w8.heap.size:=Nat.le_trans hBq2 b8.size;clear y6 y7 FI b8 HRq HMq H6q H7q;have y6:w8.cell? ⟨c6,0,none⟩=some (.pointer (some ⟨p,0,none⟩)):=H68.out.cell 0 rfl;have y7:w8.cell? ⟨c7,0,none⟩=some (.int .u64 (sc.best:Int)):=H78.out.cell 0 rfl;obtain⟨fb,hfb⟩:∃fb,fb=fileN b sc.best:=⟨_,rfl⟩;rw[<-hfb];have HFB:=qh hfb;clear hfb;refine zg hK ?_;clear hK K;refine zh rfl (by rfl) (fun K hK=>?_)
    go_simp
    have hb2:Below w8.heap.size w8 (w8.alloc (.cells #[.string ⟨fb.toArray⟩] 9)):=(Below.refl _ _).alloc (Nat.le_refl _) _;have HOL:Hid (OV (w8.alloc (.cells #[.string ⟨fb.toArray⟩] 9)) B 9 (some ⟨w8.heap.size,0,none⟩) 1 ([fb].map encStr)):=qh (OV.lit1 w8 hB8 _ _);have HR9:=qh (HR8.out.below hb2);have HM9:=qh (HM8.out.below hb2);have H69:=qh (H68.out.kept hb2);have H79:=qh (H78.out.kept hb2);have hnS:¬S' w8.heap.size:=fun h=>(by have:=HR8.out.di.bnd _ h;omega);obtain⟨lb,hlb⟩:∃lb,lb=w8.heap.size:=⟨_,rfl⟩;rw[<-hlb] at HOL hnS ⊢;generalize w8.alloc (.cells #[.string ⟨fb.toArray⟩] 9)=w9 at *;clear y6 y7 hb2 hlb HR8 HM8 H68 H78;have y6:w9.cell? ⟨c6,0,none⟩=some (.pointer (some ⟨p,0,none⟩)):=H69.out.cell 0 rfl;have y7:w9.cell? ⟨c7,0,none⟩=some (.int .u64 (sc.best:Int)):=H79.out.cell 0 rfl;have y5:w9.cell? ⟨p,5,none⟩=some (.slice O' ([]:List Nm).length co'):=HR9.out.blk.cell 5 rfl;have f5:w9.frozen? ⟨p,5,none⟩=false:=HR9.out.blk.free 5;refine zg hK ?_;clear hK K;iterate 2 (refine zd ?_)
    refine zh rfl (by rfl) (fun K hK=>?_)
    go_simp
    skip
    refine zg hK ?_;clear hK K;refine zk ?_;have HFIN:Hid (OpenEnd B S w g s1 (openD b D).2 (.returned (.tuple #[.pointer (some ⟨p,0,none⟩),.int .i64 0])) (w9.setCell ⟨p,5,none⟩ (.slice (some ⟨lb,0,none⟩) 1 1))):=qh (by
     have hfl:fb.length<=1000:=by
      rw[HFB.out];unfold fileN;have:=Go.Lib.decDigits_length sc.best;have h2:=xg hbest;simp only[List.length_append,List.length_cons,List.length_nil];omega
     have h1:=HR9.out.setOld (l:=[fb]) HOL.out (fun x hx hs=>by injection hx with hx;subst hx;exact hnS hs) (fun f hf=>by rw[List.mem_singleton.1 hf];exact hfl);refine⟨p,S',V',cv',some ⟨lb,0,none⟩,1,rfl,?_,HNZ.out,HM9.out.setCell ⟨p,5,none⟩ (.inr gp') _,gp'⟩;rw[HOP.out,HOS.out];refine h1.same ?_;rw[<-HFB.out];have hh:=HHS.out;simp only[slotAt] at hh ⊢;simp[hh])
    have y6':(w9.setCell ⟨p,5,none⟩ (.slice (some ⟨lb,0,none⟩) 1 1)).cell? ⟨c6,0,none⟩=some (.pointer (some ⟨p,0,none⟩)):=(H69.out.mods ((Mods.refl (·=p) w9).setCell ⟨p,5,none⟩ (.inl rfl) _) q6).cell 0 rfl;clear HR9 HM9 H69 H79 HOL y6 y7 y5 f5;generalize w9.setCell ⟨p,5,none⟩ (.slice (some ⟨lb,0,none⟩) 1 1)=w10 at *;go_wp2_with fail
    go_ret2
    exact HFIN.out
end
end Go.Proofs.YtobdmlejabjmiaaGreatDoor
