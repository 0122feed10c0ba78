/- Made small by a program. -/
import Derived.Test.YtobdmlejabjmiaaGreatDoorZc20
set_option maxRecDepth 20000
set_option maxHeartbeats 8000000
namespace Go.Proofs.YtobdmlejabjmiaaGreatDoor
open Go.RowKit
def loadB(s:Sl):List UInt8:=if loadE s=0 then s.value else []
def LoadEnd(s:Sl)(w:World)(e:Ending)(w':World):Prop :=
 ∃A c,e=.returned (.tuple #[.slice A (loadB s).length c,.int .i64 (loadE s)])/\OB w' w.heap.size A c (loadB s)/\Below w.heap.size w w'
theorem zar{s:Sl}{w:World}{k:Int}(h:loadE s=k)(hk:k≠0):LoadEnd s w (.returned (.tuple #[.slice none 0 0,.int .i64 k])) w:=by
 have hB:loadB s=[]:=by unfold loadB;rw[h,if_neg hk]
 exact⟨none,0,by rw[hB,h];rfl,by rw[hB];exact OB.nil _ _,Below.refl _ _⟩
section
variable {B p g cv co:Nat} {S:Nat->Prop} {w w':World} {s s':Sl} {D D':DSt} {V O:Option Addr}
theorem j6(h:SR B S w p g s D V cv O co)(hl:s.value.length<=100000):Calls Tryz.prog 141 #[.pointer (some ⟨p,0,none⟩)] w (LoadEnd s w):=by
 have c3:w.cell? ⟨p,3,none⟩=some (.slice V s.value.length cv):=h.blk.cell 3 rfl;have c4:w.cell? ⟨p,4,none⟩=some (.bool s.has):=h.blk.cell 4 rfl;have c6:w.cell? ⟨p,6,none⟩=some (.bool s.down):=h.blk.cell 6 rfl;have CL:=qh (yH V cv s.value w h.val.rb (by omega));clear h;cases hd:s.down with
 | true =>
  have HF:=qh (zar (s:=s) (w:=w) (k:=11) (by unfold loadE;rw[if_pos hd]) (by decide));rw[hd] at c6;clear hd;go_enter Tryz.func141,Tryz.ntmps141;go_wp2_with fail
  go_ret2
  exact HF.out
 | false =>
  rw[hd] at c6;cases hh:s.has with
  | false =>
   have HF:=qh (zar (s:=s) (w:=w) (k:=8) (by unfold loadE;rw[if_neg (by rw[hd];simp),if_pos hh]) (by decide));rw[hh] at c4;clear hd hh;go_enter Tryz.func141,Tryz.ntmps141;go_wp2_with fail
   go_ret2
   exact HF.out
  | true =>
   rw[hh] at c4;have HE:Hid (loadE s=0):=qh (by unfold loadE;rw[if_neg (by rw[hd];simp),if_neg (by rw[hh];simp)]);have HB:Hid (loadB s=s.value):=qh (by unfold loadB;rw[if_pos HE.out]);clear hd hh;go_enter Tryz.func141,Tryz.ntmps141;go_wp2_with (go_at_call 82;refine CL.out.mono ?_);rintro e w1 ⟨A,c,rfl,ho,hb⟩;have HO:=qh ho;have HBL:=qh hb;clear ho hb CL;go_wp2_with fail
   go_ret2
   exact⟨A,c,by rw[HB.out,HE.out];rfl,by rw[HB.out];exact HO.out,HBL.out⟩
theorem SR.same(h:SR B S w p g s D V cv O co)(e:s=s'):SR B S w p g s' D V cv O co:=by subst e;exact h
theorem up_same(s:Sl)(h:s.down=false):({ s with down:=false }:Sl)=s:=by
 obtain⟨a1,a2,a3,a4,a5,a6⟩:=s;simp only at h;subst h
 rfl
theorem zdp(h:SR B S w p g s D V cv O co)(hB:B<=w.heap.size)(hE:SEnv B w)(hd:s.down=false)(x:List UInt8)(Y:Option Addr)(cy:Nat)(hY:RB w Y x)(hYS:0<x.length->∀b,Y.map (·.block)=some b->¬S b/\b≠p)(hx:x.length<=65520)(hl:s.last+1<18446744073709551616)(hcnt:D.cnt<=1000)(hfs:D.files.length<=1000)(hol:s.old.length<=1000) :
  Calls Tryz.prog 38 #[.pointer (some ⟨p,0,none⟩),.slice Y x.length cy] w (SDone B S w V p g (.int .i64 (saveS s D x).1) (saveS s D x).2.1 (saveS s D x).2.2):=by
 obtain⟨r,hr⟩:∃r,r=saveS s D x:=⟨_,rfl⟩;rw[<-hr];unfold saveS at hr;rw[if_neg (by rw[hd];simp),if_neg (by omega)] at hr;have c6:w.cell? ⟨p,6,none⟩=some (.bool false):=by rw[<-hd];exact h.blk.cell 6 rfl
 have FR:=qh (zah Y cy x w hY (by omega));have hxl:(x.length:Int)<=65520:=by omega
 have HS:=qh h;have HE:=qh hE;have HRR:=qh hr;have HY:=qh hY;have HYS:=qh hYS;clear h hE hr hY hYS;go_enter Tryz.func38,Tryz.ntmps38;go_wp2_with (go_at_call 87;refine FR.out.mono ?_);rintro e w1 ⟨k,A,c,hk,hk1,hk2,rfl,ho,hb1⟩;have hkf:=hk.out;subst hkf;have hR1:=HS.out.below hb1;have HE1:=qh (HE.out.below (hb1.mono hB));have hB1:B<=w1.heap.size:=Nat.le_trans hB hb1.size;have c2:w1.cell? ⟨p,2,none⟩=some (.int .u64 (s.last:Int)):=hR1.blk.cell 2 rfl;have hw:=IntWalk.u64_in ((s.last:Int)+1) (by omega);have hfi:=zbc hR1.blk rfl hR1.bl (s.last+1) hl HE1.out hB1;rw[Int.natCast_add] at hfi;have FI:=qh hfi;have HO1:=qh ho;have HB1:=qh hb1;have HR1:=qh hR1;clear FR c6 hk hk1 hk2 ho hb1 hR1 hfi HE1;go_wp2_with (go_at_call 63;refine FI.out.mono ?_);rintro e w2 ⟨rfl,hb2⟩;obtain⟨f,hf⟩:∃f,f=fileN s.base (s.last+1):=⟨_,rfl⟩;rw[<-hf];have hR2:=HR1.out.below hb2;have hB2:B<=w2.heap.size:=Nat.le_trans hB1 hb2.size;obtain⟨q1,hq1⟩:∃q1,q1=putS D f x:=⟨_,rfl⟩;have hfl:f.length<=1000:=by
  rw[hf];unfold fileN;have:=Go.Lib.decDigits_length (s.last+1);have h2:=xg hl;have:=HR1.out.bl;simp only[List.length_append,List.length_cons,List.length_nil];omega
 have hfrl:=jk x;have hnS:∀b,A.map (·.block)=some b->¬S b:=fun b hb hs=>by
  have h1:=(HO1.out.blk_in b hb).1;have h2:=HS.out.di.bnd b hs;omega
 have hpt:=jW f 0 (frameB x) A c hR2.di (HO1.out.below hb2).rb (fun _=>hnS) (by omega) (by omega) (by omega) (by omega);rw[show changeD D ⟨1,f,(0:Int).toNat,frameB x⟩ 0=q1 from hq1.symm] at hpt;have PT:=qh hpt;have d0:w2.cell? ⟨p,0,none⟩=some (.pointer (some ⟨g,0,none⟩)):=hR2.blk.cell 0 rfl;have HR2:=qh hR2;have HB2:=qh (HB1.out.trans (hb2.mono HB1.out.size));have HFL:=qh hfl;have HF:=qh hf;have HQ1:=qh hq1;clear FI c2 hw hR2 hpt hb2 hfl hfrl hf hq1 HR1 HO1 HB1 hnS;go_wp2_with (go_at_call 89;refine PT.out.mono ?_);rintro e w3 ⟨rfl,hd3,m3⟩;have hR3:=HR2.out.disk hB2 hd3 m3;have hdd:=zbb hR3.blk s.down rfl q1.1;rw[hd] at hdd;simp only[Bool.false_or] at hdd;have DD:=qh hdd;have hR4:SR B (Sx S w2 w3) (w3.setCell ⟨p,6,none⟩ (.bool (decide (q1.1=11)))) p g { s with down:=decide (q1.1=11) } q1.2 V cv O co:=hR3.set 6 _ rfl rfl rfl rfl;have hm4:Mods (fun b=>S b\/b=p) w (w3.setCell ⟨p,6,none⟩ (.bool (decide (q1.1=11)))):=(((Mods.of_below HB2.out).trans m3 (fun i hi=>.inl (.inl hi))).setCell ⟨p,6,none⟩ (.inl (.inr rfl)) _);have hn4:∀b,Sx S w2 w3 b->S b\/w.heap.size<=b:=fun b hb=>by
  rcases hb with hb | hb
  ·exact .inl hb
  ·exact .inr (Nat.le_trans HB2.out.size hb.1)
 have HR4:=qh hR4;have HM4:=qh hm4;have HN4:=qh hn4;have hs4:=hm4.size;have HRB:=qh (HRR.out);rw[<-HF.out,<-HQ1.out] at HRB;have hq1c:q1.2.cnt<=D.cnt+1:=by rw[HQ1.out];exact zag _ _ _
 clear d0 hd3 m3 hR3 hdd hR4 hm4 hn4 PT HR2 HB2 hB2 HRR;go_wp2_with (go_at_call 88;refine DD.out.mono ?_);rintro e w4 ⟨rfl,hw4⟩;subst hw4;clear DD;by_cases h1:q1.1=0;rotate_left
 ·have h1b:(q1.1 == 0)=false:=by simpa using h1
  have HFIN:Hid (SDone B S w V p g (.int .i64 r.1) r.2.1 r.2.2 (.returned (.int .i64 q1.1)) (w3.setCell ⟨p,6,none⟩ (.bool (decide (q1.1=11))))):=qh (by
   rw[HRB.out,if_pos h1];exact⟨rfl,Sx S w2 w3,V,cv,O,co,HR4.out,HN4.out,HM4.out,fun _ h=>.inl h⟩)
  clear HR4 HM4 HN4 HRB HS HE HY HYS h1 hq1c HF HQ1 hcnt hfs hol;go_wp2_with fail;go_ret;exact HFIN.out
 ·have hr:=HRB.out;rw[if_neg (by rw[h1];simp)] at hr;have HR5:Hid (SR B (Sx S w2 w3) (w3.setCell ⟨p,6,none⟩ (.bool (decide (q1.1=11)))) p g s q1.2 V cv O co):=qh (HR4.out.same (by rw[h1];exact up_same s hd));rw[h1] at HR5 HM4;rw[show decide ((0:Int)=11)=false from rfl] at HR5 HM4;rw[h1,show decide ((0:Int)=11)=false from rfl];have hs5:w.heap.size<=(w3.setCell ⟨p,6,none⟩ (.bool false)).heap.size:=HM4.out.size;generalize w3.setCell ⟨p,6,none⟩ (.bool false)=w5 at *;generalize hS5:Sx S w2 w3=S5 at *;have c2:w5.cell? ⟨p,2,none⟩=some (.int .u64 (s.last:Int)):=HR5.out.blk.cell 2 rfl;have f2:w5.frozen? ⟨p,2,none⟩=false:=HR5.out.blk.free 2;have hw:=IntWalk.u64_in ((s.last:Int)+1) (by omega);have HR6:Hid (SR B S5 (w5.setCell ⟨p,2,none⟩ (.int .u64 ((s.last:Int)+1))) p g { s with last:=s.last+1 } q1.2 V cv O co):=qh (HR5.out.set 2 _ rfl rfl rfl rfl);have HM6:Hid (Mods (fun b=>S b\/b=p) w (w5.setCell ⟨p,2,none⟩ (.int .u64 ((s.last:Int)+1)))):=qh (HM4.out.setCell ⟨p,2,none⟩ (.inl (.inr rfl)) _);have d0:(w5.setCell ⟨p,2,none⟩ (.int .u64 ((s.last:Int)+1))).cell? ⟨p,0,none⟩=some (.pointer (some ⟨g,0,none⟩)):=HR6.out.blk.cell 0 rfl;obtain⟨q2,hq2⟩:∃q2,q2=syncD q1.2:=⟨_,rfl⟩;have hsy:=xB HR6.out.di (by omega);rw[<-hq2] at hsy hr;have SY:=qh hsy;have HRC:=qh hr;have HQ2:=qh hq2;clear hr HRB HR4 HM4 HR5 hsy hq2 hs4;go_wp2_with (go_at_call 90;refine SY.out.mono ?_);rintro e w6 ⟨rfl,hd6,m6⟩;have hB6:B<=(w5.setCell ⟨p,2,none⟩ (.int .u64 ((s.last:Int)+1))).heap.size:=Nat.le_trans hB HM6.out.size;have hR7:=HR6.out.disk hB6 hd6 m6;have hdd:=zbb hR7.blk s.down rfl q2.1;rw[hd] at hdd;simp only[Bool.false_or] at hdd;have DD:=qh hdd;have HR8:Hid (SR B (Sx S5 (w5.setCell ⟨p,2,none⟩ (.int .u64 ((s.last:Int)+1))) w6) (w6.setCell ⟨p,6,none⟩ (.bool (decide (q2.1=11)))) p g { s with last:=s.last+1,down:=decide (q2.1=11) } q2.2 V cv O co):=qh (hR7.set 6 _ rfl rfl rfl rfl);have HM8:Hid (Mods (fun b=>S b\/b=p) w (w6.setCell ⟨p,6,none⟩ (.bool (decide (q2.1=11))))):=qh ((HM6.out.trans m6 (fun i hi=>by
   rcases HN4.out i hi with h | h
   ·exact .inl (.inl h)
   ·exact .inr h)).setCell ⟨p,6,none⟩ (.inl (.inr rfl)) _)
  have HN8:Hid (∀b,Sx S5 (w5.setCell ⟨p,2,none⟩ (.int .u64 ((s.last:Int)+1))) w6 b->S b\/w.heap.size<=b):=qh (fun b hb=>by
   rcases hb with hb | hb
   ·exact HN4.out b hb
   ·exact .inr (Nat.le_trans HM6.out.size hb.1))
  clear hd6 m6 hR7 hdd SY d0 c2 f2 HR6 HM6;go_wp2_with (go_at_call 88;refine DD.out.mono ?_);rintro e w7 ⟨rfl,hw7⟩;subst hw7;clear DD;generalize hS8:Sx S5 (w5.setCell ⟨p,2,none⟩ (.int .u64 ((s.last:Int)+1))) w6=S8 at *;by_cases h2:q2.1=0;rotate_left
  ·have h2b:(q2.1 == 0)=false:=(by simpa using h2);have HFIN:Hid (SDone B S w V p g (.int .i64 r.1) r.2.1 r.2.2 (.returned (.int .i64 q2.1)) (w6.setCell ⟨p,6,none⟩ (.bool (decide (q2.1=11))))):=qh (by
    rw[HRC.out,if_pos h2];exact⟨rfl,S8,V,cv,O,co,HR8.out,HN8.out,HM8.out,fun _ h=>.inl h⟩)
   clear HR8 HM8 HN8 HRC HS HE HY HYS h2 hq1c HF HQ1 HQ2 hcnt hfs hol hB6 HN4 hs5 hw;go_wp2_with fail;go_ret;exact HFIN.out
  ·have hr:=HRC.out;rw[if_neg (by rw[h2];simp)] at hr;rw[h2] at HR8 HM8;rw[show decide ((0:Int)=11)=false from rfl] at HR8 HM8;rw[h2,show decide ((0:Int)=11)=false from rfl];have hs8:w.heap.size<=(w6.setCell ⟨p,6,none⟩ (.bool false)).heap.size:=HM8.out.size;generalize w6.setCell ⟨p,6,none⟩ (.bool false)=w8 at *;have hy8:=HY.out.mods HM8.out (fun h0 b hb hc=>by
    rcases hc with hc | hc
    ·exact(HYS.out h0 b hb).1 hc
    ·exact(HYS.out h0 b hb).2 hc)
   have CL:=qh (yH Y cy x w8 hy8 (by omega));obtain⟨z,hz⟩:∃z,z=cleanD s.old q2.2:=⟨_,rfl⟩;rw[<-hz] at hr;have HRD:=qh hr;have HZ:=qh hz;clear hr HRC hy8 hz hB6 hs5;go_wp2_with (go_at_call 82;refine CL.out.mono ?_);rintro e w9 ⟨V',cv',rfl,ho9,hb9⟩;have hR9:=HR8.out.below hb9;have hB9:B<=w9.heap.size:=Nat.le_trans hB (Nat.le_trans hs8 hb9.size);have hv9:OB w9 B V' cv' x:=ho9.base_le (Nat.le_trans hB hs8);have hvs:∀b,V'.map (·.block)=some b->¬S8 b:=fun b hb hs=>by
    have h1:=(ho9.blk_in b hb).1;have h2:=HR8.out.di.bnd b hs;omega
   have HV9:Hid (∀b,V'.map (·.block)=some b->w8.heap.size<=b):=qh (fun b hb=>(ho9.blk_in b hb).1);have hRa:=(hR9.setVal hv9 hvs);have f3:w9.frozen? ⟨p,3,none⟩=false:=hR9.blk.free 3;have c3:w9.cell? ⟨p,3,none⟩=some (.slice V s.value.length cv):=hR9.blk.cell 3 rfl;have f4:(w9.setCell ⟨p,3,none⟩ (.slice V' x.length cv')).frozen? ⟨p,4,none⟩=false:=hRa.blk.free 4;have c4:(w9.setCell ⟨p,3,none⟩ (.slice V' x.length cv')).cell? ⟨p,4,none⟩=some (.bool s.has):=hRa.blk.cell 4 rfl;have HRa:Hid (SR B S8 ((w9.setCell ⟨p,3,none⟩ (.slice V' x.length cv')).setCell ⟨p,4,none⟩ (.bool true)) p g ⟨s.base,s.last+1,x,true,s.old,false⟩ q2.2 V' cv' O co):=qh (hRa.set 4 _ rfl rfl rfl rfl);have HMa:Hid (Mods (fun b=>S b\/b=p) w ((w9.setCell ⟨p,3,none⟩ (.slice V' x.length cv')).setCell ⟨p,4,none⟩ (.bool true))):=qh (((HM8.out.below hb9).setCell ⟨p,3,none⟩ (.inl (.inr rfl)) _).setCell ⟨p,4,none⟩ (.inl (.inr rfl)) _);have hq2c:q2.2.cnt<=5000:=by
    rw[HQ2.out];have h3:=sync_cnt q1.2;have h4:q1.2.files.length<=D.files.length+1:=by
     rw[HQ1.out];exact zbp _ _ _
    omega
   have hcc:=qP HRa.out (by simpa using hB9) (by simp only;omega);rw[<-HZ.out] at hcc;obtain⟨s9,hs9⟩:∃s9:Sl,s9=⟨s.base,s.last+1,x,true,(if (cleanL s.old q2.2).1=0 then [] else s.old),(false || decide (z.1=11))⟩:=⟨_,rfl⟩;simp only at hcc;rw[<-hs9] at hcc;have HS9:=qh hs9;have CC:=qh hcc;clear hs9;have sa:=(HMa.out).size;clear hR9 hRa hcc ho9 hb9 hvs hv9 CL HR8 HM8;go_wp2_with (go_at_call 64;refine CC.out.mono ?_);rintro e w10 ⟨rfl,Sc,Vc,cvc,Oc,coc,hRc,hNc,hMc,hVc⟩;have HVd:Hid (∀b,Vc.map (·.block)=some b->V.map (·.block)=some b\/w.heap.size<=b):=qh (fun b hb=>by
    rcases hVc b hb with h | h
    ·exact .inr (Nat.le_trans hs8 (HV9.out b h))
    ·exact .inr (Nat.le_trans sa h))
   clear hVc;have f5:(w10.alloc (.cells #[.string ⟨f.toArray⟩] 9)).frozen? ⟨p,5,none⟩=false:=(hRc.below ((Below.refl _ _).alloc (Nat.le_refl _) _)).blk.free 5;have c5:(w10.alloc (.cells #[.string ⟨f.toArray⟩] 9)).cell? ⟨p,5,none⟩=some (.slice Oc s9.old.length coc):=(hRc.below ((Below.refl _ _).alloc (Nat.le_refl _) _)).blk.cell 5 rfl;have hBc:B<=w10.heap.size:=Nat.le_trans hB (Nat.le_trans sa hMc.size);have HRd:Hid (SR B Sc ((w10.alloc (.cells #[.string ⟨f.toArray⟩] 9)).setCell ⟨p,5,none⟩ (.slice (some ⟨w10.heap.size,0,none⟩) 1 1)) p g r.2.1 z.2 Vc cvc (some ⟨w10.heap.size,0,none⟩) 1):=qh (by
    have h1:=(hRc.below ((Below.refl _ _).alloc (Nat.le_refl _) (.cells #[.string ⟨f.toArray⟩] 9))).setOld (O':=some ⟨w10.heap.size,0,none⟩) (co':=1) (l:=[f]) (OV.lit1 w10 hBc _ _) (fun b hb hs=>by
     have h2:=hRc.di.bnd b hs;injection hb with hb
     simp only at hb;omega) (fun g hg=>by rw[List.mem_singleton.1 hg];exact HFL.out)
    refine h1.same ?_;rw[HRD.out,HS9.out,HF.out];simp)
   have HMd:Hid (Mods (fun b=>S b\/b=p) w ((w10.alloc (.cells #[.string ⟨f.toArray⟩] 9)).setCell ⟨p,5,none⟩ (.slice (some ⟨w10.heap.size,0,none⟩) 1 1))):=qh (((HMa.out.trans hMc (fun i hi=>by
    rcases hi with hi | hi
    ·rcases HN8.out i hi with h | h
     ·exact .inl (.inl h)
     ·exact .inr h
    ·exact .inl (.inr hi))).alloc _).setCell ⟨p,5,none⟩ (.inl (.inr rfl)) _)
   have HNd:Hid (∀b,Sc b->S b\/w.heap.size<=b):=qh (fun b hb=>by
    rcases hNc b hb with h | h
    ·exact HN8.out b h
    ·exact .inr (Nat.le_trans sa h))
   have HER:Hid (r.1=z.1/\r.2.2=z.2):=qh (by rw[HRD.out];exact⟨rfl,rfl⟩);clear hRc hNc hMc CC HRa HMa HN8 HRD HZ HS9 HQ2 HQ1 HF HFL HS HE HY HYS h1 h2 hq1c hq2c hcnt hfs hol HN4 hs8 hB9 hw;go_wp2_with fail;go_ret;exact⟨by rw[HER.out.1];rfl,Sc,Vc,cvc,_,1,by rw[HER.out.2];exact HRd.out,HNd.out,HMd.out,HVd.out⟩
end
structure CA(B p c6 c7:Nat)(b:Nm)(n:Nat)(w:World):Prop where
 six:Blk w c6 69 #[.pointer (some ⟨p,0,none⟩)]
 seven:Blk w c7 23 #[.int .u64 (n:Int)]
 slot:∃cs,Blk w p TS cs/\cs[1]?=some (.string ⟨b.toArray⟩)
 env:SEnv B w
 lo:B<=w.heap.size
 bl:b.length<=8
 nn:n<18446744073709551616
theorem CA.below{B p c6 c7:Nat}{b:Nm}{n:Nat}{w w':World}(h:CA B p c6 c7 b n w)(hb:Below w.heap.size w w'):CA B p c6 c7 b n w':=by
 obtain⟨h1,h2,⟨cs,h3,h4⟩,h5,h6,h7,h8⟩:=h;exact⟨h1.kept hb,h2.kept hb,⟨cs,h3.kept hb,h4⟩,h5.below (hb.mono h6),Nat.le_trans h6 hb.size,h7,h8⟩
theorem CA.mods{B p c6 c7 k:Nat}{b:Nm}{n:Nat}{w w':World}(h:CA B p c6 c7 b n w)(m:Mods (·=k) w w')(hk:B<=k)(h1:c6≠k)(h2:c7≠k)(h3:p≠k):CA B p c6 c7 b n w':=by
 obtain⟨q1,q2,⟨cs,q3,q4⟩,q5,q6,q7,q8⟩:=h;exact⟨q1.mods m h1,q2.mods m h2,⟨cs,q3.mods m h3,q4⟩,q5.below (Mods.old (Below.refl _ _) m q6 (fun i _ e=>by subst e;exact hk)),Nat.le_trans q6 m.size,q7,q8⟩
section
variable {B p c6 c7 n:Nat} {b:Nm} {w w':World}
theorem zbe(h:CA B p c6 c7 b n w)(f:List UInt8)(r:Bool)(hr:(f == fileN b n)=r) :
  Calls Tryz.prog 62 #[.string ⟨f.toArray⟩,.pointer (some ⟨c6,0,none⟩),.pointer (some ⟨c7,0,none⟩)] w fun e w'=>e=.returned (.bool r)/\Below w.heap.size w w':=by
 obtain⟨h1,h2,⟨cs,h3,h4⟩,h5,h6,h7,h8⟩:=h;have e6:w.cell? ⟨c6,0,none⟩=some (.pointer (some ⟨p,0,none⟩)):=h1.cell 0 rfl;have e7:w.cell? ⟨c7,0,none⟩=some (.int .u64 (n:Int)):=h2.cell 0 rfl;have FI:=qh (zbc h3 h4 h7 n h8 h5 h6);generalize fileN b n=y at *;clear h1 h2 h3 h4 h5 h6;go_enter Tryz.func62,Tryz.ntmps62;go_wp2_with (go_at_call 63;refine FI.out.mono ?_);rintro e w1 ⟨rfl,b1⟩;have HB:=qh b1;clear b1 FI;go_wp2_with fail;go_ret;exact⟨rfl,HB.out⟩
abbrev pickV(c6 c7:Nat):Value:=.func (.func 62) #[] #[.pointer (some ⟨c6,0,none⟩),.pointer (some ⟨c7,0,none⟩)]
theorem zfl(h:CA B p c6 c7 b n w)(l1 l2:List Nm)(O:Option Addr)(co m:Nat)(hm:m=(l1++fileN b n::l2).length)(hl:RV w O ((l1++fileN b n::l2).map encStr))(h1:fileN b n ∉ l1)(hn:m<=1000000) :
  Calls Tryz.prog 127 #[.slice O m co,pickV c6 c7] w fun e w'=>e=.returned (.int .i64 (l1.length:Int))/\Below w.heap.size w w':=by
 have HC:=qh h;have HL:=qh hl;have HNI:=qh h1;have HM:=qh hm;have hm1:l1.length<m:=by rw[hm];simp
 clear h hl h1 hm;go_enter Tryz.func127,Tryz.ntmps127;go_wp2_with fail;go_loopw [8] (fun i wr=>∃k:Nat,k<=l1.length/\i=.int .i64 (k:Int)/\Hid (Below w.heap.size w wr)) (fun i _=>l1.length - (intOf i).toNat)
 case atStart=>exact⟨0,Nat.zero_le _,rfl,qh (Below.refl _ _)⟩
 case round =>
  obtain⟨k,hk,rfl,HW⟩:=hrel;have hki:(k:Int)<(m:Int):=by omega
  have hki0:(0:Int)<=(k:Int):=by omega
  have hkm:k<(l1++fileN b n::l2).length:=by rw[<-HM.out];omega
  have hc0:=(HL.out.below HW.out).cell (j:=k) (by rw[List.length_map];exact hkm);obtain⟨ob,off,rfl,hbl,hc⟩:=hc0;rw[show((l1++fileN b n::l2).map encStr)[k]'(by rw[List.length_map];exact hkm)=.string ⟨((l1++fileN b n::l2)[k]).toArray⟩ from by rw[List.getElem_map]] at hc;have HCW:=qh (HC.out.below HW.out);by_cases hlt:k<l1.length
  ·have hne:((l1++fileN b n::l2)[k] == fileN b n)=false:=by
    rw[List.getElem_append_left hlt];exact beq_eq_false_iff_ne.2 (fun e=>HNI.out (by rw[<-e];exact List.getElem_mem hlt))
   have PK:=qh (zbe HCW.out _ _ hne);generalize (l1++fileN b n::l2)[k]=f at *;clear HCW hne;go_wp2_with fail;refine PK.out.mono ?_;rintro e w1 ⟨rfl,b1⟩;have HW1:=qh (HW.out.trans (b1.mono HW.out.size));clear b1 PK;go_wp2_with fail;go_roundw
   case rel=>exact⟨k+1,by omega,by go_num,HW1⟩
   case measure=>simp[intOf];omega
  ·obtain rfl:k=l1.length:=(by omega);have he:((l1++fileN b n::l2)[l1.length] == fileN b n)=true:=by
    rw[List.getElem_append_right (Nat.le_refl _)];simp
   have PK:=qh (zbe HCW.out _ _ he);generalize (l1++fileN b n::l2)[l1.length]=f at *;clear HCW he;go_wp2_with fail;refine PK.out.mono ?_;rintro e w1 ⟨rfl,b1⟩;have HW1:=qh (HW.out.trans (b1.mono HW.out.size));clear b1 PK;go_wp2_with fail;go_ret;exact⟨rfl,HW1.out⟩
end
theorem zdV{P:Program}(w:World)(t e ty:TypeId){z:Value}{k:Nat}(ht:P.underlying t=some (.slice e))(hz:∀w,(zeroValue e).run P w=.ok z w)(hzs:z.cells.size=k)(k0:0<k)(hz1:∀v∈z.cells.toList,v.oneCell'=true)
  (b off c:Nat) (cur:Array Value) (hg:w.heap[b]?=some (.cells cur e (0,0))) (hfit:off+k<=cur.size) :
  ∃zs:List Value,zs.length=k/\(Builtin.clear_ #[t] ty #[.slice (some ⟨b,off,none⟩) 1 c]).run P w=.ok (.tuple #[]) (w.setRow b (cur.toList.take off++zs++cur.toList.drop (off+zs.length)).toArray):=by
 have hzl:(Builtin.zeroCells z.cells 1).toList.length=k:=by simp[Builtin.zeroCells,hzs]
 have hst:=run_storeCells_at P b off e (Builtin.zeroCells z.cells 1).toList 0 cur w hg (by rw[hzl];omega) (fun v hv=>by
  simp only[Builtin.zeroCells,Array.toList_map,List.mem_map,Array.toList_range,List.mem_range] at hv;obtain⟨i,hi,rfl⟩:=hv;refine hz1 _ ?_;have hlt:i % z.cells.size<z.cells.size:=Nat.mod_lt _ (by omega);rw[getElem!_pos z.cells _ hlt];exact Array.getElem_mem_toList hlt)
 simp only[Nat.add_zero] at hst;refine⟨_,hzl,?_⟩;simp[Builtin.clear_,run_underlying ht,hz,hst]
theorem OV.store{w:World}{base c k:Nat}{e:TypeId}{g:Nat}{xs:List Value}(h:OV w base e (some ⟨g,0,none⟩) c xs)(hk:k<xs.length)(v:Value) :
  w.cell? ⟨g,k,none⟩=some xs[k]/\w.frozen? ⟨g,k,none⟩=false/\OV (w.setCell ⟨g,k,none⟩ v) base e (some ⟨g,0,none⟩) c (xs.set k v):=by
 refine⟨?_,World.ownsRow.frozenAt h k,?_⟩
 ·have:=World.ownsRow.cellAt h k (by omega);rw[this,List.getElem?_eq_getElem hk]
 ·have:=(World.ownsRow.stored h k v).1;unfold OV;rw[List.length_set];exact this
theorem OV.cur{w:World}{base c g:Nat}{e:TypeId}{xs:List Value}(h:OV w base e (some ⟨g,0,none⟩) c xs):∃cur,w.heap[g]?=some (.cells cur e (0,0))/\base<=g/\xs.length<=c/\c<=maxLen/\cur.size=c/\cur.toList.take xs.length=xs:=by
 rcases h.2 with⟨hv,_⟩ | ⟨g',cap,cur,hv,hb,hg,hc,hm,hs,ht⟩
 ·injection hv with h1;cases h1
 ·injection hv with h1 _ h3
  injection h1 with h1
  injection h1 with h1
  subst h1 h3;exact⟨cur,hg,hb,hc,hm,by omega,by simpa using ht⟩
theorem OV.cutAt{w:World}{base c g:Nat}{e:TypeId}{xs:List Value}(h:OV w base e (some ⟨g,0,none⟩) c xs){cur:Array Value}(hg:w.heap[g]?=some (.cells cur e (0,0)))(n:Nat)(hn:n<=xs.length)(zs:List Value)(hz:n+zs.length<=cur.size) :
  OV (w.setRow g (cur.toList.take n++zs++cur.toList.drop (n+zs.length)).toArray) base e (some ⟨g,0,none⟩) c (xs.take n):=by
 obtain⟨cur',hg',hb,hc,hm,hs,ht⟩:=h.cur;rw[hg] at hg';injection hg' with hg'
 injection hg' with hg'
 subst hg';refine⟨by simp,.inr ⟨g,c,_,rfl,hb,setRow_heap w g cur _ e _ hg,?_,hm,?_,?_⟩⟩
 ·rw[List.length_take];omega
 ·simp only[List.size_toArray,List.length_append,List.length_take,List.length_drop,Array.length_toList];omega
 ·rw[List.length_take,Nat.min_eq_left hn,Nat.mul_one];simp only;rw[List.append_assoc,List.take_append_of_le_length (by simp;omega),List.take_take,Nat.min_self];rw[<-ht,List.take_take,Nat.min_eq_left hn]
theorem str_zero(w:World):(zeroValue 9).run Tryz.prog w=.ok (.string ⟨#[]⟩) w:=by kernel_rfl
structure DelAt(B p c6 c7 g co:Nat)(b:Nm)(n:Nat)(w:World)(l1 l2:List Nm)(t:Nat)(wr:World):Prop where
 row:OV wr B 9 (some ⟨g,0,none⟩) co ((l1++l2.take t++(fileN b n::l2).drop t).map encStr)
 ca:CA B p c6 c7 b n wr
 mods:Mods (·=g) w wr
section
variable {B p c6 c7 n:Nat} {b:Nm} {w w':World}
theorem zd0(h:CA B p c6 c7 b n w)(l1 l2:List Nm)(g co m:Nat)(hm:m=l1.length+1+l2.length)(ho:OV w B 9 (some ⟨g,0,none⟩) co ((l1++fileN b n::l2).map encStr))(h1:fileN b n ∉ l1)(h2:fileN b n ∉ l2)(hn:m<=1000000) :
  Calls Tryz.prog 61 #[.slice (some ⟨g,0,none⟩) m co,pickV c6 c7] w fun e w'=>e=.returned (.slice (some ⟨g,0,none⟩) (l1.length+l2.length) co)/\OV w' B 9 (some ⟨g,0,none⟩) co ((l1++l2).map encStr)/\Mods (·=g) w w':=by
 have IX:=qh (zfl h l1 l2 (some ⟨g,0,none⟩) co m (by rw[hm];simp;omega) ho.rv h1 hn);have hcap:=ho.cap;rw[List.length_map] at hcap;have hgB:=(ho.blk_lt g rfl).1;have n6:c6≠g:=fun e=>ho.ne_blk h.six (by decide) (by rw[e];rfl)
 have n7:c7≠g:=fun e=>ho.ne_blk h.seven (by decide) (by rw[e];rfl)
 have np:p≠g:=fun e=>by obtain⟨cs,hp,_⟩:=h.slot;exact ho.ne_blk hp (by decide) (by rw[e];rfl)
 have HC:=qh h;have HO:=qh ho;have H2:=qh h2;have hco:m<=co/\co<=9223372036854775807:=by
  have:=hcap.1;simp only[List.length_append,List.length_cons] at this;omega
 obtain⟨hco1,hco2⟩:=hco;have hne1:(((l1.length:Nat):Int) == -1)=false:=by rw[beq_eq_false_iff_ne];omega
 have hm1:m<=l1.length+1+l2.length:=by omega
 have hm2:l1.length+1+l2.length<=m:=by omega
 clear h ho h1 h2 hcap hm;go_enter Tryz.func61,Tryz.ntmps61;go_wp2_with (go_at_call 127;refine IX.out.mono ?_);rintro e w1 ⟨rfl,b1⟩;have HA:Hid (DelAt B p c6 c7 g co b n w l1 l2 0 w1):=qh ⟨by simpa using HO.out.below b1,HC.out.below b1,Mods.of_below b1⟩;clear b1 IX HC HO;go_wp2_with fail;go_loopw [5,6] (fun s5 s6 wr=>∃t:Nat,t<=l2.length/\s5=.int .i64 ((l1.length+t:Nat):Int)/\s6=.int .i64 ((l1.length+1+t:Nat):Int)/\Hid (DelAt B p c6 c7 g co b n w l1 l2 t wr)) (fun _ s6 _=>m - (intOf s6).toNat)
 case atStart=>exact⟨0,Nat.zero_le _,by go_num,by go_num,HA⟩
 case round =>
  obtain⟨t,ht,rfl,rfl,HD⟩:=hrel;by_cases hlt:t<l2.length
  ·obtain⟨P,hP⟩:∃P,P=l1++l2.take t:=⟨_,rfl⟩;have hPl:P.length=l1.length+t:=(by rw[hP,List.length_append,List.length_take];omega);obtain⟨y,hy⟩:∃y,y=(fileN b n::l2)[t]'(by simp;omega):=⟨_,rfl⟩;have hrow:l1++l2.take t++(fileN b n::l2).drop t=P++y::l2[t]::l2.drop (t+1):=by
    rw[hP,hy,List.drop_eq_getElem_cons (by simp;omega),List.drop_succ_cons,List.drop_eq_getElem_cons hlt]
   have hrow2:l1++l2.take (t+1)++(fileN b n::l2).drop (t+1)=P++l2[t]::l2[t]::l2.drop (t+1):=by
    have e1:l2.take (t+1)=l2.take t++[l2[t]]:=List.take_succ_eq_append_getElem hlt;have e2:l2.drop t=l2[t]::l2.drop (t+1):=List.drop_eq_getElem_cons hlt;rw[hP,List.drop_succ_cons,e1,e2];simp only[List.append_assoc,List.cons_append,List.nil_append]
   have hov:=HD.out.row;rw[hrow] at hov;have hc:=(hov.store (k:=P.length+1) (by simp only[List.length_map,List.length_append,List.length_cons];omega) (encStr l2[t])).1;rw[show((P++y::l2[t]::l2.drop (t+1)).map encStr)[P.length+1]'(by simp only[List.length_map,List.length_append,List.length_cons];omega)=.string ⟨(l2[t]).toArray⟩ from by rw[List.getElem_map,List.getElem_append_right (by omega)];simp] at hc;obtain⟨hi1,hi2,hi3⟩:=hov.store (k:=P.length) (by simp) (encStr l2[t]);rw[show((P++y::l2[t]::l2.drop (t+1)).map encStr)[P.length]'(by simp)=.string ⟨y.toArray⟩ from by rw[List.getElem_map,List.getElem_append_right (Nat.le_refl _)];simp] at hi1;rw[show((P++y::l2[t]::l2.drop (t+1)).map encStr).set P.length (encStr l2[t])=(P++l2[t]::l2[t]::l2.drop (t+1)).map encStr from by
    rw[List.map_append,List.set_append_right _ _ (by simp)];simp] at hi3
   have hne:(l2[t] == fileN b n)=false:=beq_eq_false_iff_ne.2 (fun e=>H2.out (by rw[<-e];exact List.getElem_mem hlt));have PK:=qh (zbe HD.out.ca _ _ hne);rw[hPl,show l1.length+t+1=l1.length+1+t from by omega] at hc;rw[hPl] at hi1 hi2 hi3;rw[<-hrow2] at hi3;have hovb:=HD.out.row;rw[hrow] at hovb;have HOVB:=qh hovb;have HR2:=qh hrow2;have HPL:=qh hPl;have HCA:=qh HD.out.ca;have HMD:=qh HD.out.mods;generalize l2[t]=f at *;have hj0:(0:Int)<=((l1.length+1+t:Nat):Int):=(by omega);have hj1:((l1.length+1+t:Nat):Int)<(m:Int):=(by omega);have hi0:(0:Int)<=((l1.length+t:Nat):Int):=(by omega);have hi01:((l1.length+t:Nat):Int)<(m:Int):=(by omega);clear hov hovb hi1 hi2 hi3 hne hrow hrow2 hP hPl hy HD;go_wp2_with fail;refine PK.out.mono ?_;rintro e w2 ⟨rfl,b2⟩;have hov:=HOVB.out.below b2;obtain⟨hi1,hi2,hi3⟩:=hov.store (k:=P.length) (by simp) (encStr f);rw[show((P++y::f::l2.drop (t+1)).map encStr)[P.length]'(by simp)=.string ⟨y.toArray⟩ from by rw[List.getElem_map,List.getElem_append_right (Nat.le_refl _)];simp] at hi1;rw[show((P++y::f::l2.drop (t+1)).map encStr).set P.length (encStr f)=(P++f::f::l2.drop (t+1)).map encStr from by
    rw[List.map_append,List.set_append_right _ _ (by simp)];simp] at hi3
   rw[HPL.out] at hi1 hi2 hi3;rw[<-HR2.out] at hi3;have hm2:Mods (·=g) w2 (w2.setCell ⟨g,l1.length+t,none⟩ (encStr f)):=(Mods.refl (·=g) w2).setCell ⟨g,_,none⟩ (.inl rfl) _;have HA2:Hid (DelAt B p c6 c7 g co b n w l1 l2 (t+1) (w2.setCell ⟨g,l1.length+t,none⟩ (encStr f))):=qh ⟨hi3,(HCA.out.below b2).mods hm2 hgB n6 n7 np,(HMD.out.below b2).then hm2⟩;clear hi3 hov hm2 b2 HOVB HR2 HPL HCA HMD PK hc;go_wp2_with fail;go_roundw
   case rel=>exact⟨t+1,by omega,by go_num,by go_num,HA2⟩
   case measure=>simp[intOf];omega
  ·obtain rfl:t=l2.length:=(by omega);have hov:=HD.out.row;rw[List.take_length] at hov;obtain⟨cur,hg,_,_,hmx,hsz,_⟩:=hov.cur;have hnl:(l1++l2).length=l1.length+l2.length:=List.length_append;obtain⟨zs,hzs,hcl⟩:=zdV (P:=Tryz.prog) (k:=1) wr 79 9 0 Tryz.underlying79 str_zero rfl (by decide) (by simp[Value.cells,Value.oneCell']) g (l1.length+l2.length) (co - (l1.length+l2.length)) cur hg (by omega);have h3:=hov.cutAt hg (l1.length+l2.length) (by simp only[List.length_map,List.length_append];omega) zs (by omega);have htk:(l1++l2++(fileN b n::l2).drop l2.length).take (l1.length+l2.length)=l1++l2:=(by rw[<-hnl];exact List.take_left' rfl);rw[<-List.map_take,htk] at h3;have HO3:=qh h3;have HM3:=qh (HD.out.mods.setRow g (.inl rfl) (cur.toList.take (l1.length+l2.length)++zs++cur.toList.drop (l1.length+l2.length+zs.length)).toArray);have hjn:¬(((l1.length+1+l2.length:Nat):Int)<(m:Int)):=(by omega);rw[show(1:Nat)=m - (l1.length+l2.length) from by omega] at hcl;have hq0:(0:Int)<=((l1.length+l2.length:Nat):Int):=(by omega);have hq1:((l1.length+l2.length:Nat):Int)<=(m:Int):=(by omega);clear hov h3 hg hsz hzs HD H2;generalize wr.setRow g (cur.toList.take (l1.length+l2.length)++zs++cur.toList.drop (l1.length+l2.length+zs.length)).toArray=w3 at *;go_wp2_with fail;go_ret;refine⟨rfl,?_,HM3.out⟩;first | exact HO3.out | (rw[<-List.map_append];exact HO3.out)
end
def scanAt(b:Nm)(D:DSt)(k:Nat):Sc:=((namesD D).take k).foldl (scan1 b D.files) Sc.zero
theorem xz(b:Nm)(D:DSt):scanAt b D 0=Sc.zero:=rfl
theorem zaC(b:Nm)(D:DSt):scanAt b D (namesD D).length=scanD b D:=by unfold scanAt scanD;rw[List.take_length]
theorem qL(b:Nm)(D:DSt){k:Nat}(hk:k<(namesD D).length):scanAt b D (k+1)=scan1 b D.files (scanAt b D k) (namesD D)[k]:=by
 unfold scanAt;rw[List.take_succ_eq_append_getElem hk,List.foldl_append]
 rfl
def Canon(b:Nm)(D:DSt):Prop:=∀f∈namesD D,∀n,numN b f=some n->f=fileN b n/\n<18446744073709551616
structure ScanOk(b:Nm)(L:List Nm)(s:Sc):Prop where
 last:s.last<18446744073709551616
 best:s.best<18446744073709551616
 sub:s.old.Sublist L
 mem:s.has=true->fileN b s.best∈s.old
theorem zcE(b:Nm)(F:FS)(s:Sc)(f:Nm):scan1 b F s f=s/\numN b f=none\/∃n,numN b f=some n/\(scan1 b F s f=⟨max s.last n,n,true,(unfrAt ((fget F f).getD []) 0).1,s.old++[f]⟩\/scan1 b F s f=⟨max s.last n,s.best,s.has,s.value,s.old++[f]⟩):=by
 unfold scan1;cases h:numN b f with
 | none=>exact .inl ⟨rfl,rfl⟩
 | some n =>
  refine .inr ⟨n,rfl,?_⟩;simp only;split
  ·exact .inl rfl
  ·exact .inr rfl
theorem qM{b:Nm}{D:DSt}(hc:Canon b D):∀k,k<=(namesD D).length->ScanOk b ((namesD D).take k) (scanAt b D k)
 | 0,_=>⟨by rw[xz];show 0<_;omega,by rw[xz];show 0<_;omega,by rw[xz];exact List.nil_sublist _,by rw[xz];intro h;cases h⟩
 | k+1,hk=>by
  have ih:=qM hc k (by omega);have hlt:k<(namesD D).length:=by omega
  rw[qL b D hlt,List.take_succ_eq_append_getElem hlt];have hm:(namesD D)[k]∈namesD D:=List.getElem_mem hlt
  rcases zcE b D.files (scanAt b D k) (namesD D)[k] with⟨e,_⟩ | ⟨n,hn,e | e⟩
  ·rw[e];exact⟨ih.last,ih.best,ih.sub.trans (List.sublist_append_left _ _),ih.mem⟩
  ·obtain⟨h1,h2⟩:=hc _ hm n hn;have:=ih.last;rw[e];refine⟨?_,h2,ih.sub.append (List.Sublist.refl _),fun _=>?_⟩
   ·simp only;omega
   ·simp only;rw[<-h1];exact List.mem_append_right _ (List.mem_singleton.2 rfl)
  ·obtain⟨h1,h2⟩:=hc _ hm n hn;have:=ih.last;rw[e];refine⟨?_,ih.best,ih.sub.append (List.Sublist.refl _),fun h=>List.mem_append_left _ (ih.mem h)⟩;simp only;omega
theorem zd3{l:List Nm}{x:Nm}(hn:l.Nodup)(hx:x∈l):∃l1 l2,l=l1++x::l2/\x ∉ l1/\x ∉ l2/\l.filter (fun f=>!(f == x))=l1++l2:=by
 obtain⟨l1,l2,rfl⟩:=List.append_of_mem hx;have h:=List.nodup_append.1 hn;have h1:x ∉ l1:=fun h'=>h.2.2 x h' x (List.mem_cons_self ..) rfl
 have h2:x ∉ l2:=(List.nodup_cons.1 h.2.1).1;refine⟨l1,l2,rfl,h1,h2,?_⟩;rw[List.filter_append,List.filter_cons];simp only[beq_self_eq_true,Bool.not_true,Bool.false_eq_true,if_false];rw[List.filter_eq_self.2 (fun a ha=>by simp;rintro rfl;exact h1 ha),List.filter_eq_self.2 (fun a ha=>by simp;rintro rfl;exact h2 ha)]
theorem qy{S:Nat->Prop}{w:World}{g:Nat}{D:DSt}(h:DI S w g D):(namesD D).Nodup:=by
 obtain⟨mf,ms,A,c,r⟩:=h;unfold namesD;split
 ·exact List.nodup_nil
 ·obtain⟨es,_,_,hr,_⟩:=r.fi;exact yF hr
theorem zbF{S:Nat->Prop}{w:World}{g:Nat}{D:DSt}(h:DI S w g D){f:Nm}(hf:f∈namesD D):∃l,fget D.files f=some l/\l.length<=4194304:=by
 obtain⟨mf,ms,A,c,r⟩:=h;have hsm:=zG r.ok.2.2.1 r.ok.2.2.2;unfold namesD at hf;split at hf
 ·cases hf
 ·obtain⟨q,hq,rfl⟩:=List.mem_map.1 hf;obtain⟨es,_,_,hr,_⟩:=r.fi;have hg:=xY (yF hr) hq;exact⟨q.2,hg,hsm _ _ hg⟩
theorem read_ok{S:Nat->Prop}{w:World}{g:Nat}{D:DSt}(h:DI S w g D)(hd:D.down=false){f:Nm}(hn:nameOk f=true)(hf:f∈namesD D):readE D f=0/\readB D f=(fget D.files f).getD []/\((fget D.files f).getD []).length<=4194304:=by
 obtain⟨l,h1,h2⟩:=zbF h hf;have e:readE D f=0:=by unfold readE;rw[if_neg (by rw[hd];simp),if_neg (by rw[hn];simp),if_pos (by rw[h1];rfl)]
 exact⟨e,by unfold readB;rw[if_pos e],by rw[h1];exact h2⟩
/-! ### A row of names that grows -/
theorem zaU:∀xs:List Value,(xs.map fun v=>[v]).flatten=xs
 | []=>rfl
 | x::r=>by rw[List.map_cons,List.flatten_cons,zaU r];rfl
theorem OV.to_or{w:World}{base c:Nat}{e:TypeId}{A:Option Addr}{xs:List Value}(h:OV w base e A c xs):OR w base e 1 A c (xs.map fun v=>[v]):=by
 refine⟨?_,fun r hr=>by obtain⟨v,_,rfl⟩:=List.mem_map.1 hr;rfl⟩;rw[zaU,List.length_map];exact h
theorem OR.to_ov{w:World}{base c:Nat}{e:TypeId}{A:Option Addr}{xs:List Value}(h:OR w base e 1 A c (xs.map fun v=>[v])):OV w base e A c xs:=by
 have:=h.1;rw[zaU,List.length_map] at this;exact this
theorem zcI:(Tryz.prog.info? 9).map (fun i=>(i.zero,i.size,i.bytes))=some (some (.string ⟨#[]⟩),1,16):=by kernel_rfl
theorem xi(w:World){o:Oper}{a:Act}{K:Act->World->Prop}{Q:Exit->Act->World->Prop}(s x:Operand)
  (ho:o.op=.call { callee:=.builtin .append,args:=#[s,x],argTypes:=#[79,79] })
  (base:Nat) (A:Option Addr) (c gx:Nat) (l:List Nm) (f:Nm) (hs:a.eval s=.slice A l.length c) (hx:a.eval x=.slice (some ⟨gx,0,none⟩) 1 1)
  (hown:OV w base 9 A c (l.map encStr)) (hb:Blk w gx 9 #[.string ⟨f.toArray⟩]) (hl:l.length<=1000000) (hbase:base<=w.heap.size)
  (h:∀(m:Nat) (A':Option Addr) (c':Nat) (w':World),m<=(l++[f]).length->(l++[f]).length<=m->OV w' base 9 A' c' ((l++[f]).map encStr)->w.grownBy w' (A.map (·.block))->(A'.map (·.block)=A.map (·.block)\/A'.map (·.block)=some w.heap.size) ->
   K (a.put o.dst (.slice A' m c')) w'):o.wp Tryz.prog a w K Q:=by
 obtain⟨i,hi,hz0,hz1,hz2⟩:=info_parts zcI;refine zN w s x 79 9 ho Tryz.underlying79 hi hz0 hz1 hz2 rfl (by decide) base A (some ⟨gx,0,none⟩) c 1 ((l.map encStr).map fun v=>[v]) [[encStr f]] (by rw[List.length_map,List.length_map];exact hs) hx hown.to_or (RS.lit (r:=[encStr f]) hb) (fun r hr=>by rw[List.mem_singleton.1 hr];rfl) (fun r hr v hv=>by rw[List.mem_singleton.1 hr] at hv;rw[List.mem_singleton.1 hv];rfl) (by rw[List.length_map,List.length_map];simp;omega) (by rw[List.length_map,List.length_map];simp;omega) hbase ?_;intro ys A' c' w' hys h1 h2 ho' hg hAt;have e:ys=((l++[f]).map encStr).map fun v=>[v]:=by rw[hys.out];simp
 refine h ys.length A' c' w' (by rw[e];simp) (by rw[e];simp) ?_ hg hAt;rw[e] at ho';exact ho'.to_ov
/-! ### A slot's name -/
def letters:List UInt8:=[97,98,99,100,101,102,103,104,105,106,107,108,109,110,111,112,113,114,115,116,117,118,119,120,121,122]
theorem qp(c:UInt8):letters.contains c=true ↔ 97<=c.toNat/\c.toNat<=122:=by
 have h256:c.toNat<256:=c.toNat_lt;have e:c=UInt8.ofNat c.toNat:=by simp
 rw[List.contains_iff_mem];have hl:letters.map UInt8.toNat=[97,98,99,100,101,102,103,104,105,106,107,108,109,110,111,112,113,114,115,116,117,118,119,120,121,122]:=by decide
 constructor
 ·intro h;have:=List.mem_map_of_mem (f:=UInt8.toNat) h;rw[hl] at this;simp only[List.mem_cons,List.not_mem_nil,or_false] at this;omega
 ·intro h;have hm:c.toNat∈letters.map UInt8.toNat:=by
   rw[hl];simp only[List.mem_cons,List.not_mem_nil,or_false];omega
  obtain⟨d,hd,he⟩:=List.mem_map.1 hm;rw[e,<-he];simpa using hd
theorem slotTrim(b:List UInt8)(w:World)(hb:b.length<=9223372036854775807) :
  Calls Tryz.prog 56 #[.string ⟨b.toArray⟩,.string ⟨#[97,98,99,100,101,102,103,104,105,106,107,108,109,110,111,112,113,114,115,116,117,118,119,120,121,122]⟩] w fun e w'=>e=.returned (.string ⟨(Lib.trimS b letters).toArray⟩)/\Below w.heap.size w w' :=
 Any.strings_Trim_laid Tryz.lays160 (by kernel_rfl) ⟨b.toArray⟩ ⟨#[97,98,99,100,101,102,103,104,105,106,107,108,109,110,111,112,113,114,115,116,117,118,119,120,121,122]⟩ w (by simpa [ByteArray.size] using hb) (by decide) (ascii_of_all (by decide))
theorem zbY(b:List UInt8):Lib.trimS b letters=[] ↔ ∀c∈b,97<=c.toNat/\c.toNat<=122:=by
 rw[zaF,List.all_eq_true];exact⟨fun h c hc=>(qp c).1 (h c hc),fun h c hc=>(qp c).2 (h c hc)⟩
end Go.Proofs.YtobdmlejabjmiaaGreatDoor
