/- Made small by a program. -/
import Derived.Test.YtobdmlejabjmiaaGreatDoorZd31
import Derived.Test.YtobdmlejabjmiaaGreatDoorZd24
set_option maxRecDepth 20000
set_option maxHeartbeats 8000000
namespace Go.Proofs.YtobdmlejabjmiaaGreatDoor
open Go.RowKit
section
variable {B p g sc rc:Nat} {S F F' T:Nat->Prop} {w w' wr:World} {l l':Lg} {D D':DSt} {Z Z' Z1 Z2:List (Sg × Pl)} {Y Y':List (List UInt8 × Option Addr × Nat)} {SA RA SA' RA':Option Addr} {s s':Sg} {z:Pl} {sc' rc' n:Nat}
theorem LX.only{g8 c8:Nat}(h:LX B S F w p g l D Z Y SA sc RA rc)(hs:SgAt w B s z)(ho:OV w B TP (some ⟨g8,0,none⟩) c8 [ptrV (s,z)])(hF:F g8/\F z.q/\F z.m)(next:Nat) :
  LX B S F (((w.setCell ⟨p,2,none⟩ (.slice (some ⟨g8,0,none⟩) 1 c8)).setCell ⟨p,3,none⟩ (.slice none 0 0)).setCell ⟨p,4,none⟩ (.int .u64 (next:Int))) p g { l with segs:=[s],recs:=[],first:=next } D [(s,z)] [] (some ⟨g8,0,none⟩) c8 none 0:=by
 have hl:LB B S F w g D [(s,z)] [] (some ⟨g8,0,none⟩) c8 none 0 :=
  {di:=h.lb.di
   sv:=ho
   rv:=OV.nil _ _ _
   sg:=fun y hy=>by rw[List.mem_singleton.1 hy];exact hs
   rc:=fun y hy=>by cases hy
   fs:=fun b e=>by
    have e2:g8=b:=by simpa using e
    rw[<-e2];exact hF.1
   fr:=fun b e=>by cases e
   fq:=fun y hy=>by rw[List.mem_singleton.1 hy];exact hF.2
   fy:=fun y hy=>by cases hy
   yb:=fun y hy=>by cases hy
   dis:=h.lb.dis
   bnd:=h.lb.bnd
   sge:=h.lb.sge
   qn:=by simp
   mn:=by simp }
 have m1:Mods (·=p) w (w.setCell ⟨p,2,none⟩ (.slice (some ⟨g8,0,none⟩) 1 c8)):=(Mods.refl (·=p) w).setCell ⟨p,_,none⟩ (.inl rfl) _
 have m2:=m1.setCell ⟨p,3,none⟩ (.inl rfl) (.slice none 0 0)
 have m3:=m2.setCell ⟨p,4,none⟩ (.inl rfl) (.int .u64 (next:Int))
 refine⟨?_,h.fp,rfl,rfl,hl.setP h.blk h.ps m3⟩
 have h1:=((h.blk.setCell 2 (.slice (some ⟨g8,0,none⟩) 1 c8)).setCell 3 (.slice none 0 0)).setCell 4 (.int .u64 (next:Int))
 have e:(((logV g l SA sc RA rc).setIfInBounds 2 (.slice (some ⟨g8,0,none⟩) 1 c8)).setIfInBounds 3 (.slice none 0 0)).setIfInBounds 4 (.int .u64 (next:Int))=logV g { l with segs:=[s],recs:=[],first:=next } (some ⟨g8,0,none⟩) c8 none 0:=by
  simp[logV]
 rw[e] at h1
 exact h1
theorem walReset(h:LX B S F w p g l D Z Y SA sc RA rc)(hB:B<=w.heap.size)(hE:SEnv B w)(next:Nat)(hnx:next<=9223372036854775807)(hera:l.era<=1000000000000)(hnm:∀s∈l.segs,s.name.length<=1000)(hsl:l.segs.length<=100000)(hcnt:D.cnt+l.segs.length<=500000) :
  Calls Tryz.prog 50 #[.pointer (some ⟨p,0,none⟩),.int .u64 (next:Int)] w (LDone B S F w p g (.int .i64 (resetW l D next).1) (resetW l D next).2.1 (resetW l D next).2.2):=by
 have AL:=qh (walAlive h.blk l.down rfl)
 have DONE:∀(e:Int) (v:World),Below w.heap.size w v->LDone B S F w p g (.int .i64 e) l D (.returned (.int .i64 e)) v:=fun e v hv=>⟨rfl,S,F,⟨_,_,_,_,_,_,h.below hv⟩,fun b hb=>.inl hb,fun b hb=>.inl hb,Mods.of_below hv⟩
 cases hd:l.down with
 | true =>
  rw[hd,if_pos rfl] at AL
  have e:resetW l D next=(11,l,D):=by unfold resetW;rw[if_pos hd]
  rw[e]
  have HF:=qh (DONE 11 w (Below.refl _ _))
  clear h hcnt hd e hE hnm DONE
  go_enter Tryz.func50,Tryz.ntmps50
  go_wp2_with (go_at_call 92;refine AL.out.mono ?_)
  first | rintro e w1 rfl rfl | rintro e w1 ⟨rfl,rfl⟩
  clear AL
  go_wp2_with fail
  go_ret
  exact HF.out
 | false =>
  rw[hd,if_neg (by simp)] at AL
  have HD:=qh hd
  by_cases h0:next=0
  ·have e:resetW l D next=(1,l,D):=by unfold resetW;rw[if_neg (by rw[hd];simp),if_pos h0]
   rw[e]
   have hI:((next:Int) == 0)=true:=by rw[beq_iff_eq];omega
   have HF:=qh (DONE 1 w (Below.refl _ _))
   clear h hcnt hd e hE hnm DONE h0
   go_enter Tryz.func50,Tryz.ntmps50
   go_wp2_with (go_at_call 92;refine AL.out.mono ?_;first | rintro e w1 rfl rfl | rintro e w1 ⟨rfl,rfl⟩)
   go_ret
   exact HF.out
  ·have hI:((next:Int) == 0)=false:=by rw[beq_eq_false_iff_ne];omega
   obtain⟨era,hera2⟩:∃era,era=l.era+1:=⟨_,rfl⟩
   obtain⟨nm,hnm2⟩:∃nm,nm=walName era next:=⟨_,rfl⟩
   obtain⟨q1,hq1⟩:∃q1,q1=putW D nm 0 []:=⟨_,rfl⟩
   obtain⟨q2,hq2⟩:∃q2,q2=syncW { l with era:=era } q1.2:=⟨_,rfl⟩
   obtain⟨r,hr⟩:∃r,r=resetW l D next:=⟨_,rfl⟩
   have hnml:nm.length<=43:=by rw[hnm2];exact walName_len (by omega) (by omega)
   have hr1:r=if q1.1≠0 then(q1.1,l.fell q1.1,q1.2) else if q2.1≠0 then(q2.1,l.fell q2.1,q2.2.2) else removeW (l.segs.map Sg.name) { l with era:=era,segs:=[⟨nm,next,[0]⟩],recs:=[],first:=next } q2.2.2:=by
    have e1:syncW l q1.2=(q2.1,l.fell q2.1,q2.2.2):=by
     rw[hq2];unfold syncW
     simp only
     rw[if_neg (by rw[hd];simp),if_neg (by rw[hd];simp)]
    rw[hr]
    unfold resetW
    rw[if_neg (by rw[hd];simp),if_neg h0,<-hera2,<-hnm2,<-hq1]
    split
    ·rfl
    ·rw[e1]
     split
     ·rfl
     ·rename_i h1 h2
      have h3:q2.1=0:=Classical.not_not.1 h2
      simp only[h3,fell_ok hd]
   rw[<-hr]
   have HR:=qh hr1
   have HQ:=qh (And.intro hq1 hq2)
   have HNM2:=qh hnm2
   have HNM:=qh hnm
   have HE:=qh hE
   have herab:era<=1000000000001:=by omega
   have hwe:IntKind.u64.wrap ((l.era:Int)+1)=(era:Int):=by rw[IntWalk.u64_in _ (by omega)];omega
   have hwe2:IntKind.u64.wrap ((era:Int) - 1)=(l.era:Int):=by rw[IntWalk.u64_in _ (by omega)];omega
   have y1:w.cell? ⟨p,1,none⟩=some (.int .u64 (l.era:Int)):=h.blk.cell 1 rfl
   have f1:w.frozen? ⟨p,1,none⟩=false:=h.blk.free 1
   have c2:w.cell? ⟨p,2,none⟩=some (.slice SA l.segs.length sc):=h.blk.cell 2 rfl
   have m1:Mods (·=p) w (w.setCell ⟨p,1,none⟩ (.int .u64 (era:Int))):=(Mods.refl (·=p) w).setCell ⟨p,_,none⟩ (.inl rfl) _
   have HX1:Hid (LX B S F (w.setCell ⟨p,1,none⟩ (.int .u64 (era:Int))) p g { l with era:=era } D Z Y SA sc RA rc):=qh (h.set 1 _ rfl rfl rfl)
   have HM1:Hid (Mods (fun b=>S b\/F b) w (w.setCell ⟨p,1,none⟩ (.int .u64 (era:Int)))):=qh (m1.mono (fun i _ e=>.inr (by rw[e];exact h.fp)))
   have HP:=qh (And.intro h.fp h.lb.sge)
   have HE1:Hid (SEnv B (w.setCell ⟨p,1,none⟩ (.int .u64 (era:Int)))):=qh (hE.below (m1.lift (fun b e=>by rw[e];exact(h.lb.bnd p h.fp).1) hB))
   obtain⟨ns,hns⟩:∃ns,ns=l.segs.length:=⟨_,rfl⟩
   rw[<-hns] at c2 hsl hcnt
   have HNS:=qh hns
   have hsz1:w.heap.size<=(w.setCell ⟨p,1,none⟩ (.int .u64 (era:Int))).heap.size:=m1.size
   clear h hd h0 hr hr1 hq1 hq2 hnm2 hnm hE DONE m1 hns hera2
   go_enter Tryz.func50,Tryz.ntmps50
   go_upto_region 8 with(go_at_call 92;refine AL.out.mono ?_;first | rintro e w1 rfl rfl | rintro e w1 ⟨rfl,rfl⟩)
   generalize w.setCell ⟨p,1,none⟩ (.int .u64 (era:Int))=w1 at *
   have NC:=walNameC HX1.out.blk era rfl (by omega) next (by omega) HE1.out (Nat.le_trans hB hsz1)
   rw[<-HNM2.out] at NC
   have NCH:=qh NC
   clear NC y1 f1 c2 AL
   go_wp2_with (go_at_call 97;refine NCH.out.mono ?_)
   first | rintro e w2 rfl hb2 | rintro e w2 ⟨rfl,hb2⟩
   have HX2:=qh (HX1.out.below hb2)
   have HM2:Hid (Mods (fun b=>S b\/F b) w w2):=qh (HM1.out.below hb2)
   have hsz2:w.heap.size<=w2.heap.size:=HM2.out.size
   have PT:=diskPutC nm 0 [] none 0 HX2.out.lb.di RB.nil (by simp) (by omega) (by omega) (by omega) (by simp)
   rw[show changeD D ⟨1,nm,((0:Int)).toNat,[]⟩ (0:Int)=q1 from by rw[HQ.out.1];rfl] at PT
   have PTH:=qh PT
   have y0:w2.cell? ⟨p,0,none⟩=some (.pointer (some ⟨g,0,none⟩)):=HX2.out.blk.cell 0 rfl
   have HQC:Hid (q1.2.cnt<=D.cnt+1):=qh (by rw[HQ.out.1];unfold putW;exact wchange_cnt _ _ _)
   clear hb2 NCH PT HX1 HM1 HE1
   go_wp2_with (go_at_call 89;refine PTH.out.mono ?_)
   rintro e w3 ⟨rfl,hd3,m3⟩
   have HX3:=qh (HX2.out.disk (Nat.le_trans hB hsz2) hd3 m3)
   have HM3:Hid (Mods (fun b=>S b\/F b) w w3):=qh (HM2.out.trans m3 (fun i hi=>.inl (.inl hi)))
   have HS3:Hid (∀b,Sx S w2 w3 b->S b\/w.heap.size<=b):=qh (fun b hb=>hb.elim .inl (fun h=>.inr (Nat.le_trans hsz2 h.1)))
   have DD:=qh (walDid HX3.out.blk l.down rfl q1.1)
   clear hd3 m3 PTH y0 HX2 HM2
   generalize Sx S w2 w3=S3 at *
   go_wp2_with (go_at_call 93;refine DD.out.mono ?_)
   first | rintro e w4 rfl rfl | rintro e w4 ⟨rfl,rfl⟩
   have HX4:Hid (LX B S3 F (w3.setCell ⟨p,5,none⟩ (.bool (l.down || decide (q1.1=11)))) p g (({ l with era:=era }:Lg).fell q1.1) q1.2 Z Y SA sc RA rc):=qh (HX3.out.set 5 _ rfl rfl rfl)
   have HM4:Hid (Mods (fun b=>S b\/F b) w (w3.setCell ⟨p,5,none⟩ (.bool (l.down || decide (q1.1=11))))):=qh (HM3.out.trans ((Mods.refl (·=p) w3).setCell ⟨p,5,none⟩ (.inl rfl) (.bool (l.down || decide (q1.1=11)))) (fun i hi=>.inl (.inr (by rw[hi];exact HP.out.1))))
   clear HX3 HM3 DD
   generalize w3.setCell ⟨p,5,none⟩ (.bool (l.down || decide (q1.1=11)))=w4 at *
   have hsz4:w.heap.size<=w4.heap.size:=HM4.out.size
   by_cases hq0:q1.1=0
   ·have hqb:(q1.1 == 0)=true:=by simpa using hq0
    have HX5:Hid (LX B S3 F w4 p g { l with era:=era } q1.2 Z Y SA sc RA rc):=qh (HX4.out.same (by rw[hq0];exact fell_ok HD.out))
    have SY:=walSync HX5.out (Nat.le_trans hB hsz4) (by have:=HQC.out;omega)
    rw[<-HQ.out.2] at SY
    have SYH:=qh SY
    have HR2:Hid (r=if q2.1≠0 then(q2.1,l.fell q2.1,q2.2.2) else removeW (l.segs.map Sg.name) { l with era:=era,segs:=[⟨nm,next,[0]⟩],recs:=[],first:=next } q2.2.2):=qh (by have h:=HR.out;rw[if_neg (by rw[hq0];simp)] at h;exact h)
    have HQ3:Hid (q2=syncW { l with era:=era } q1.2):=qh HQ.out.2
    rw[hq0]
    clear hq0 hqb SY HX4 HR HQ
    go_wp2_with (go_at_call 44;refine SYH.out.mono ?_)
    rintro e w5 ⟨rfl,S5,hx5,hs5,hm5⟩
    have HM5:Hid (Mods (fun b=>S b\/F b) w w5):=qh (HM4.out.trans hm5 (fun i hi=>by
     rcases hi with hi | hi
     ·exact(HS3.out i hi).imp .inl id
     ·exact .inl (.inr (by rw[hi];exact HP.out.1))))
    have HS5:Hid (∀b,S5 b->S b\/w.heap.size<=b):=qh (fun b hb=>(hs5 b hb).elim (HS3.out b) (fun h=>.inr (Nat.le_trans hsz4 h)))
    have HX6:=qh hx5
    have hsz5:w.heap.size<=w5.heap.size:=HM5.out.size
    clear hx5 hs5 hm5 HM4 HS3 SYH HX5
    by_cases hq0:q2.1=0
    ·have hqb:(q2.1 == 0)=true:=by simpa using hq0
     have hok:=syncW_ok (l:={ l with era:=era }) (D:=q1.2) HD.out (by rw[<-HQ3.out];exact hq0)
     rw[<-HQ3.out] at hok
     have HX7:=qh (HX6.out.same hok.1)
     have HC7:Hid (q2.2.2.cnt<=D.cnt+1):=qh (Nat.le_trans hok.2 HQC.out)
     have HR3:Hid (r=removeW (l.segs.map Sg.name) { l with era:=era,segs:=[⟨nm,next,[0]⟩],recs:=[],first:=next } q2.2.2):=qh (by have h:=HR2.out;rw[if_neg (by rw[hq0];simp)] at h;exact h)
     rw[hq0]
     clear hok HX6 HR2 HQ3 hq0 hqb HQC
     generalize q2.2.2=D7 at *
     have hB5:B<=w5.heap.size:=Nat.le_trans hB hsz5
     have hm1:OV (w5.alloc (.cells #[.int .i64 0] 3)) B 3 (some ⟨w5.heap.size,0,none⟩) 1 [.int .i64 0]:=OV.lit1 w5 hB5 _ _
     have hq1:=Blk.new (w5.alloc (.cells #[.int .i64 0] 3)) #[.string ⟨nm.toArray⟩,.int .u64 (next:Int),.slice (some ⟨w5.heap.size,0,none⟩) 1 1] TG
     rw[show(w5.alloc (.cells #[.int .i64 0] 3)).heap.size=w5.heap.size+1 from by simp] at hq1
     have hb7:Below w5.heap.size w5 ((w5.alloc (.cells #[.int .i64 0] 3)).alloc (.cells #[.string ⟨nm.toArray⟩,.int .u64 (next:Int),.slice (some ⟨w5.heap.size,0,none⟩) 1 1] TG)):=((Below.refl _ _).alloc (Nat.le_refl _) _).alloc (by simp) _
     have hsg7:SgAt ((w5.alloc (.cells #[.int .i64 0] 3)).alloc (.cells #[.string ⟨nm.toArray⟩,.int .u64 (next:Int),.slice (some ⟨w5.heap.size,0,none⟩) 1 1] TG)) B ⟨nm,next,[0]⟩ ⟨w5.heap.size+1,w5.heap.size,1⟩:=⟨hq1,hm1.alloc _,by simp⟩
     obtain⟨w7,hw7⟩:∃w7,w7=(w5.alloc (.cells #[.int .i64 0] 3)).alloc (.cells #[.string ⟨nm.toArray⟩,.int .u64 (next:Int),.slice (some ⟨w5.heap.size,0,none⟩) 1 1] TG):=⟨_,rfl⟩
     rw[<-hw7] at hb7 hsg7
     have hw7s:w7.heap.size=w5.heap.size+2:=by rw[hw7];simp
     have hb8:Below w7.heap.size w7 (w7.alloc (.cells #[.pointer (some ⟨w5.heap.size+1,0,none⟩)] TP)):=(Below.refl _ _).alloc (Nat.le_refl _) _
     have ho8:OV (w7.alloc (.cells #[.pointer (some ⟨w5.heap.size+1,0,none⟩)] TP)) B TP (some ⟨w7.heap.size,0,none⟩) 1 [.pointer (some ⟨w5.heap.size+1,0,none⟩)]:=OV.lit1 w7 (by omega) _ _
     have hb58:=hb7.trans (hb8.mono hb7.size)
     have hX8:=(HX7.out.below hb58).wideN (n:=w5.heap.size) hB5 (fun b hb=>HX7.out.lb.di.bnd b hb)
     have hs8:(w7.alloc (.cells #[.pointer (some ⟨w5.heap.size+1,0,none⟩)] TP)).heap.size=w5.heap.size+3:=by simp;omega
     have hON:=hX8.only (g8:=w7.heap.size) (c8:=1) (hsg7.below hb8) ho8 ⟨.inr ⟨by omega,by omega⟩,.inr (show w5.heap.size<=w5.heap.size+1/\w5.heap.size+1<_ from⟨by omega,by omega⟩),.inr (show w5.heap.size<=w5.heap.size/\w5.heap.size<_ from⟨by omega,by omega⟩)⟩ next
     have HON:=qh hON
     obtain⟨w8,hw8⟩:∃w8,w8=w7.alloc (.cells #[.pointer (some ⟨w5.heap.size+1,0,none⟩)] TP):=⟨_,rfl⟩
     rw[<-hw8] at HON hb58 hs8
     have m1:Mods (·=p) w8 (w8.setCell ⟨p,2,none⟩ (.slice (some ⟨w7.heap.size,0,none⟩) 1 1)):=(Mods.refl (·=p) w8).setCell ⟨p,_,none⟩ (.inl rfl) _
     have m2:=m1.setCell ⟨p,3,none⟩ (.inl rfl) (.slice none 0 0)
     have m3:=m2.setCell ⟨p,4,none⟩ (.inl rfl) (.int .u64 (next:Int))
     have HX8:=qh (HX7.out.below hb58)
     have HM9:Hid (Mods (fun b=>S b\/F b) w (((w8.setCell ⟨p,2,none⟩ (.slice (some ⟨w7.heap.size,0,none⟩) 1 1)).setCell ⟨p,3,none⟩ (.slice none 0 0)).setCell ⟨p,4,none⟩ (.int .u64 (next:Int)))):=qh ((HM5.out.below hb58).trans m3 (fun i hi=>.inl (.inr (by rw[hi];exact HP.out.1))))
     have HROW:Hid (RV (((w8.setCell ⟨p,2,none⟩ (.slice (some ⟨w7.heap.size,0,none⟩) 1 1)).setCell ⟨p,3,none⟩ (.slice none 0 0)).setCell ⟨p,4,none⟩ (.int .u64 (next:Int))) SA (Z.map ptrV)):=qh ((HX8.out.lb.sv.mods m3 (fun k hk e=>HX8.out.lb.sv.ne_blk HX8.out.blk (by decide) (by rw[hk,e]))).rv)
     have HNMS:Hid (∀y∈Z,Blk (((w8.setCell ⟨p,2,none⟩ (.slice (some ⟨w7.heap.size,0,none⟩) 1 1)).setCell ⟨p,3,none⟩ (.slice none 0 0)).setCell ⟨p,4,none⟩ (.int .u64 (next:Int))) y.2.q TG (sgV y.1 y.2)):=qh (fun y hy=>(HX8.out.lb.sg y hy).blk.mods m3 ((HX8.out.lb.sg y hy).blk.ne HX8.out.blk (by decide)))
     have HZS:=qh HX8.out.zs
     have HSB:Hid ((∀b,S5 b->b<w8.heap.size)/\p<w8.heap.size):=qh ⟨fun b hb=>HX8.out.lb.di.bnd b hb,HX8.out.blk.lt⟩
     have y2:w8.cell? ⟨p,2,none⟩=some (.slice SA l.segs.length sc):=HX8.out.blk.cell 2 rfl
     have y3:w8.cell? ⟨p,3,none⟩=some (.slice RA l.recs.length rc):=HX8.out.blk.cell 3 rfl
     have y4:w8.cell? ⟨p,4,none⟩=some (.int .u64 (l.first:Int)):=HX8.out.blk.cell 4 rfl
     have f2:w8.frozen? ⟨p,2,none⟩=false:=HX8.out.blk.free 2
     have f3:w8.frozen? ⟨p,3,none⟩=false:=HX8.out.blk.free 3
     have f4:w8.frozen? ⟨p,4,none⟩=false:=HX8.out.blk.free 4
     rw[hw8,hw7] at y2 y3 y4 f2 f3 f4
     have hp5:p<w5.heap.size:=HX7.out.blk.lt
     have HW:=qh (And.intro hw7 (And.intro hw8 hw7s))
     clear hm1 hq1 hb7 hsg7 hw7 hw8 hb8 ho8 hX8 hON hb58 m1 m2 m3 HX7 HX8 HM5
     go_upto_region 16 with fail
     rw[show w5.heap.size+1+1=w7.heap.size from by rw[HW.out.2.2],<-HW.out.1,<-HW.out.2.1]
     clear y2 y3 y4 f2 f3 f4
     have hs89:w8.heap.size<=(((w8.setCell ⟨p,2,none⟩ (.slice (some ⟨w7.heap.size,0,none⟩) 1 1)).setCell ⟨p,3,none⟩ (.slice none 0 0)).setCell ⟨p,4,none⟩ (.int .u64 (next:Int))).heap.size:=(((Mods.refl (·=p) w8).setCell ⟨p,2,none⟩ (.inl rfl) (.slice (some ⟨w7.heap.size,0,none⟩) 1 1)).setCell ⟨p,3,none⟩ (.inl rfl) (.slice none 0 0)).setCell ⟨p,4,none⟩ (.inl rfl) (.int .u64 (next:Int)) |>.size
     generalize ((w8.setCell ⟨p,2,none⟩ (.slice (some ⟨w7.heap.size,0,none⟩) 1 1)).setCell ⟨p,3,none⟩ (.slice none 0 0)).setCell ⟨p,4,none⟩ (.int .u64 (next:Int))=w9 at *
     obtain⟨NL,hNL⟩:∃NL,NL=Z.map (fun y=>y.1.name):=⟨_,rfl⟩
     have HNS2:Hid (NL.length=ns/\Z.length=ns/\l.segs.map Sg.name=NL):=qh (by
      have hz:=HZS.out
      have e1:Z.map Prod.fst=l.segs:=hz
      refine⟨?_,?_,?_⟩
      ·rw[hNL,HNS.out,<-e1];simp
      ·rw[HNS.out,<-e1];simp
      ·rw[hNL,<-e1,List.map_map];rfl)
     have HNL:=qh hNL
     have hs9:w.heap.size<=w9.heap.size:=HM9.out.size
     clear hNL HW hw7s hs8
     go_wp2_with fail
     go_loopw [9,73] (fun s9 s73 wr=>∃(i:Nat) (R:Option Addr) (c:Nat),i<=ns/\s73=.int .i64 (i:Int)/\s9=.slice R i c/\Hid (OV wr w9.heap.size 9 R c ((NL.take i).map encStr))/\Hid (Below w9.heap.size w9 wr)) (fun _ s73 _=>ns - (intOf s73).toNat)
     case atStart=>exact⟨0,none,0,Nat.zero_le _,rfl,rfl,qh (OV.nil _ _ _),qh (Below.refl _ _)⟩
     case round =>
      obtain⟨i,R,c,hi,rfl,rfl,HOV,HBL⟩:=hrel
      by_cases hlt:i<ns
      ·have hki:(i:Int)<(ns:Int):=by omega
       have hki0:(0:Int)<=(i:Int):=by omega
       obtain⟨xb,off,rfl,hbl,hc⟩:=(HROW.out.below HBL.out).cell (j:=i) (by rw[List.length_map,HNS2.out.2.1];exact hlt)
       obtain⟨yz,hyz⟩:∃yz,Z[i]?=some yz:=⟨_,List.getElem?_eq_getElem (by rw[HNS2.out.2.1];exact hlt)⟩
       have hc':wr.cell? ⟨xb,off+i,none⟩=some (.pointer (some ⟨yz.2.q,0,none⟩)):=by
        rw[hc]
        congr 1
        have e:(Z.map ptrV)[i]?=some (ptrV yz):=by rw[List.getElem?_map,hyz];rfl
        exact(List.getElem?_eq_some_iff.1 e).2
       have hyn:NL[i]?=some yz.1.name:=by rw[HNL.out,List.getElem?_map,hyz];rfl
       have hym:yz∈Z:=List.mem_of_getElem? hyz
       have hn0:wr.cell? ⟨yz.2.q,0,none⟩=some (.string ⟨yz.1.name.toArray⟩):=((HNMS.out yz hym).kept HBL.out).cell 0 rfl
       obtain⟨xs,hxs⟩:∃xs,xs=(NL.take i).map encStr:=⟨_,rfl⟩
       have hxl:i=xs.length:=by rw[hxs,List.length_map,List.length_take,HNS2.out.1];omega
       have hHV:=HOV.out
       rw[<-hxs] at hHV
       have HTK:Hid ((NL.take (i+1)).map encStr=xs++[.string ⟨yz.1.name.toArray⟩]):=qh (by
        rw[List.take_add_one,hyn,List.map_append,<-hxs];rfl)
       have hb9:Below wr.heap.size wr (wr.alloc (.cells #[.string ⟨yz.1.name.toArray⟩] 9)):=(Below.refl _ _).alloc (Nat.le_refl _) _
       have HC9:=qh ((Blk.new wr #[.string ⟨yz.1.name.toArray⟩] 9).cell (j:=0) (v:=.string ⟨yz.1.name.toArray⟩) rfl)
       have HOV2:=qh (hHV.below hb9)
       have HBL2:=qh (HBL.out.trans (hb9.mono HBL.out.size))
       have hs10:w9.heap.size<=(wr.alloc (.cells #[.string ⟨yz.1.name.toArray⟩] 9)).heap.size:=HBL2.out.size
       obtain⟨i0,hi0,hz0,hz1,hz2⟩:=info_parts str_info3
       clear HOV hHV hxs hb9 hc hyz hyn hym HBL
       subst hxl
       generalize yz.1.name=nm2 at *
       go_wp2_with (at_builtin;go_loud (refine wp_appendK _ rfl (.tmp 77) (.tmp 82) 79 9 rfl Tryz.underlying79 hi0 hz0 hz1 hz2 rfl w9.heap.size R c 1 wr.heap.size xs (.string ⟨nm2.toArray⟩) rfl rfl HOV2.out HC9.out rfl (by omega) (by omega) hs10 ?_))
       intro ys m9 g9 c9 w10 hys hm9 ho9 hk9 hg9 hat9
       subst hm9
       have HB10:Hid (Below w9.heap.size w9 w10):=qh (Mods.old HBL2.out (Mods.of_grown (S:=fun b=>w9.heap.size<=b) hg9 (fun k e=>(HOV2.out.blk_lt k e).1)) hs10 (fun i _ e=>e))
       have HO10:Hid (OV w10 w9.heap.size 9 (some ⟨g9,0,none⟩) c9 ((NL.take (xs.length+1)).map encStr)):=qh (by rw[HTK.out];exact ho9)
       clear hys ho9 hk9 hg9 hat9 HOV2 HBL2 HC9 HTK hi0 hz0 hz1 hz2
       go_wp2_with fail
       go_roundw
       case rel=>exact⟨xs.length+1,_,_,by omega,by go_num,rfl,HO10,HB10⟩
       case measure=>simp[intOf];omega
      ·obtain rfl:i=ns:=by omega
       have HX10:=qh (HON.out.below HBL.out)
       have HM10:Hid (Mods (fun b=>S b\/F b) w wr):=qh (HM9.out.below HBL.out)
       have hnl:NL.take i=NL:=List.take_of_length_le (by rw[HNS2.out.1];exact Nat.le_refl _)
       rw[hnl] at HOV
       have hs10:w.heap.size<=wr.heap.size:=HM10.out.size
       have hcap2:=HOV.out.cap
       rw[List.length_map] at hcap2
       have RM:=walRemove HX10.out (Nat.le_trans hB hs10) NL (by rw[HNS2.out.1];have:=HC7.out;omega) R c HOV.out.rv (fun _ b hb=>by
        have h1:=(HOV.out.blk_lt b hb).1
        exact⟨fun hs=>by have:=HSB.out.1 b hs;omega,fun e=>by have:=HSB.out.2;omega⟩) (fun f hf=>by
        rw[<-HNS2.out.2.2] at hf
        obtain⟨s,hs,rfl⟩:=List.mem_map.1 hf
        exact HNM.out s hs) hcap2
       have hrr:=HR3.out
       rw[HNS2.out.2.2] at hrr
       rw[show removeW NL { l with era:=era,segs:=[⟨nm,next,[0]⟩],recs:=[],first:=next } D7=r from hrr.symm,HNS2.out.1] at RM
       have RMH:=qh RM
       clear RM hcap2 hnl hrr HR3 HON HM9 HROW HBL
       go_wp2_with (go_at_call 95;refine RMH.out.mono ?_)
       rintro e w12 ⟨rfl,S12,hx12,hs12,hm12⟩
       have HF:Hid (LDone B S F w p g (.int .i64 r.1) r.2.1 r.2.2 (.returned (.int .i64 r.1)) w12):=qh ⟨rfl,S12,_,⟨_,_,_,_,_,_,hx12⟩,fun b hb=>(hs12 b hb).elim (HS5.out b) (fun h=>.inr (Nat.le_trans hs10 h)),fun b hb=>hb.imp id (fun h=>Nat.le_trans hsz5 h.1),HM10.out.trans hm12 (fun i hi=>by
        rcases hi with hi | hi
        ·exact(HS5.out i hi).imp .inl id
        ·exact .inl (.inr (by rw[hi];exact HP.out.1)))⟩
       clear hx12 hs12 hm12 RMH HX10 HM10 HOV
       go_wp2_with fail
       go_ret
       exact HF.out
    ·have hqb:(q2.1 == 0)=false:=by simpa using hq0
     have HX7:Hid (LX B S5 F w5 p g (({ l with era:=era }:Lg).fell q2.1) q2.2.2 Z Y SA sc RA rc):=qh (HX6.out.same (by
      have h:=HQ3.out
      unfold syncW at h
      rw[if_neg (by have:=HD.out;simp only;rw[this];simp)] at h
      rw[h]))
     have y1:w5.cell? ⟨p,1,none⟩=some (.int .u64 (era:Int)):=HX7.out.blk.cell 1 rfl
     have f1:w5.frozen? ⟨p,1,none⟩=false:=HX7.out.blk.free 1
     have HF:Hid (LDone B S F w p g (.int .i64 r.1) r.2.1 r.2.2 (.returned (.int .i64 q2.1)) (w5.setCell ⟨p,1,none⟩ (.int .u64 (l.era:Int)))):=qh (by
      rw[HR2.out,if_pos hq0]
      exact⟨rfl,S5,F,⟨_,_,_,_,_,_,HX7.out.set 1 (.int .u64 (l.era:Int)) (l':=l.fell q2.1) rfl rfl rfl⟩,HS5.out,fun b hb=>.inl hb,HM5.out.trans ((Mods.refl (·=p) w5).setCell ⟨p,1,none⟩ (.inl rfl) (.int .u64 (l.era:Int))) (fun i hi=>.inl (.inr (by rw[hi];exact HP.out.1)))⟩)
     clear HX6 HX7 HM5 HS5 HR2 HQ3 hq0
     go_wp2_with fail
     go_ret
     exact HF.out
   ·have hqb:(q1.1 == 0)=false:=by simpa using hq0
    have y1:w4.cell? ⟨p,1,none⟩=some (.int .u64 (era:Int)):=HX4.out.blk.cell 1 rfl
    have f1:w4.frozen? ⟨p,1,none⟩=false:=HX4.out.blk.free 1
    have HF:Hid (LDone B S F w p g (.int .i64 r.1) r.2.1 r.2.2 (.returned (.int .i64 q1.1)) (w4.setCell ⟨p,1,none⟩ (.int .u64 (l.era:Int)))):=qh (by
     rw[HR.out,if_pos hq0]
     exact⟨rfl,S3,F,⟨_,_,_,_,_,_,HX4.out.set 1 (.int .u64 (l.era:Int)) (l':=l.fell q1.1) rfl rfl rfl⟩,HS3.out,fun b hb=>.inl hb,HM4.out.trans ((Mods.refl (·=p) w4).setCell ⟨p,1,none⟩ (.inl rfl) (.int .u64 (l.era:Int))) (fun i hi=>.inl (.inr (by rw[hi];exact HP.out.1)))⟩)
    clear HX4 HM4 HS3 HR HQ hq0
    go_wp2_with fail
    go_ret
    exact HF.out
end
theorem blk_setCells2{w:World}{g:Nat}{T:TypeId}{cs:Array Value}(h:Blk w g T cs)(o:Nat)(x y:Value):Blk (w.setCells g o [x,y]) g T ((cs.setIfInBounds o x).setIfInBounds (o+1) y):=(h.setCell o x).setCell (o+1) y
theorem blk_setCells2_other{w:World}{g k:Nat}{T:TypeId}{cs:Array Value}(h:Blk w g T cs)(hk:g≠k)(o:Nat)(x y:Value):Blk (w.setCells k o [x,y]) g T cs:=(h.setCell_other x hk).setCell_other y hk
theorem ov_setCell{w:World}{base c:Nat}{e:TypeId}{A:Option Addr}{xs:List Value}(h:OV w base e A c xs){a:Addr}(hk:a.block<base)(v:Value):OV (w.setCell a v) base e A c xs :=
 ownsRow_setCell_below h hk v
theorem ov_setCells2{w:World}{base c k:Nat}{e:TypeId}{A:Option Addr}{xs:List Value}(h:OV w base e A c xs)(hk:k<base)(o:Nat)(x y:Value):OV (w.setCells k o [x,y]) base e A c xs :=
 ov_setCell (ov_setCell h (a:=⟨k,o,none⟩) hk x) (a:=⟨k,o+1,none⟩) hk y
theorem below_setCells2{B k:Nat}{w0 w:World}(h:Below B w0 w)(hk:B<=k)(o:Nat)(x y:Value):Below B w0 (w.setCells k o [x,y]):=(h.setCell (p:=⟨k,o,none⟩) hk x).setCell (p:=⟨k,o+1,none⟩) hk y
theorem there_blk{w:World}{g:Nat}{T:TypeId}{cs:Array Value}(h:Blk w g T cs)(o n:Nat)(hn:o+n<=cs.size):w.there g o n:=fun j hj=>⟨by rw[h.cell (o+j) (Array.getElem?_eq_getElem (by omega))];rfl,h.free _⟩
theorem hard_size:(Tryz.prog.info? 25).map (·.size)=some 2:=by kernel_rfl
theorem state_size:(Tryz.prog.info? 38).map (·.size)=some 8:=by kernel_rfl
theorem entry_size:(Tryz.prog.info? 44).map (·.size)=some 5:=by kernel_rfl
abbrev stateC(ht:Nat)(hv:Int)(i t:Nat)(v l:List Int)(d:List UInt8)(V:Option Addr)(vc:Nat)(L:Option Addr)(lc:Nat)(D:Option Addr)(dc:Nat):Array Value :=
 #[.int .u64 (ht:Int),.int .i64 hv,.int .u64 (i:Int),.int .u64 (t:Int),.slice V v.length vc,.slice L l.length lc,.slice D d.length dc,.slice none 0 0]
section
variable {B p g cv co:Nat} {S S' F:Nat->Prop} {w w':World} {s:Sl} {D D':DSt} {V O:Option Addr}
theorem storeFirst0(A:Option Addr)(c:Nat)(w:World)(h:RV w A (ncells .i64 [0,0,0])) :
  Calls Tryz.prog 28 #[.slice A 3 c] w fun e w'=>e=.returned (.int .i64 0)/\w=w':=by
 have HR:=qh h
 clear h
 go_enter Tryz.func28,Tryz.ntmps28
 go_wp2_with fail
 go_loop [7] (fun i=>∃k:Nat,k<=3/\i=.int .i64 (k:Int)) (fun i=>3 - (intOf i).toNat)
 case atStart=>exact⟨0,Nat.zero_le _,rfl⟩
 case round =>
  obtain⟨k,hk,rfl⟩:=hrel
  by_cases hlt:k<3
  ·obtain⟨b,off,rfl,hb,hc⟩:=HR.out.int (j:=k) (by simpa using hlt)
   have e0:([0,0,0]:List Int)[k]'(by simpa using hlt)=0:=by
    match k,hlt with
    | 0,_=>rfl
    | 1,_=>rfl
    | 2,_=>rfl
   rw[e0] at hc
   go_wp2_with fail
   go_round
   case rel=>exact⟨k+1,by omega,by go_num⟩
   case measure=>simp[intOf];omega
  ·go_wp2_with fail
   go_ret
   exact⟨rfl,rfl⟩
theorem idxS(A:Option Addr)(c:Nat)(l:List (List UInt8))(n:List UInt8)(w:World)(h:RV w A (l.map encStr))(hl:l.length<=9223372036854775807)(r:Bool)(hr:l.contains n=r) :
  Calls Tryz.prog 70 #[.slice A l.length c,.string ⟨n.toArray⟩] w fun e w'=>(∃k:Int,e=.returned (.int .i64 k)/\decide (0<=k)=r)/\w'=w:=by
 have HR:=qh h
 have HRR:=qh hr
 clear h hr
 go_enter Tryz.func70,Tryz.ntmps70
 go_wp2_with fail
 go_loop [8] (fun i=>∃k:Nat,k<=l.length/\i=.int .i64 (k:Int)/\Hid (n ∉ l.take k))
  (fun i=>l.length - (intOf i).toNat)
 case atStart=>exact⟨0,Nat.zero_le _,rfl,qh (by simp)⟩
 case round =>
  obtain⟨k,hk,rfl,HK⟩:=hrel
  by_cases hlt:k<l.length
  ·obtain⟨b,off,rfl,hb,hc⟩:=HR.out.cell (j:=k) (by rw[List.length_map];exact hlt)
   rw[show(l.map encStr)[k]'(by rw[List.length_map];exact hlt)=.string ⟨(l[k]).toArray⟩ from by rw[List.getElem_map]] at hc
   by_cases hx:n=l[k]
   ·have HF:Hid (r=true):=qh (by rw[<-HRR.out,List.contains_iff_mem,hx];exact List.getElem_mem hlt)
    have hxb:(n == l[k])=true:=by simpa using hx
    obtain⟨x,hxe⟩:∃x,x=l[k]:=⟨_,rfl⟩
    rw[<-hxe] at hc hxb
    clear hx hxe HK
    go_wp2_with fail
    go_ret
    exact⟨⟨(k:Int),rfl,by rw[HF.out];simp⟩,rfl⟩
   ·have HT:Hid (n ∉ l.take (k+1)):=qh (by
     rw[List.take_succ_eq_append_getElem hlt,List.mem_append,List.mem_singleton]
     exact fun e=>e.elim HK.out hx)
    have hxb:(n == l[k])=false:=beq_eq_false_iff_ne.2 hx
    obtain⟨x,hxe⟩:∃x,x=l[k]:=⟨_,rfl⟩
    rw[<-hxe] at hc hxb
    clear hx hxe HK
    go_wp2_with fail
    go_round
    case rel=>exact⟨k+1,by omega,by go_num,HT⟩
    case measure=>simp[intOf];omega
  ·have HF:Hid (r=false):=qh (by
    have:=HK.out
    rw[List.take_of_length_le (by omega)] at this
    rw[<-HRR.out,<-Bool.not_eq_true,List.contains_iff_mem]
    exact this)
   clear HK
   go_wp2_with fail
   go_ret
   exact⟨⟨-1,rfl,by rw[HF.out];simp⟩,rfl⟩
theorem containsS(A:Option Addr)(c:Nat)(l:List (List UInt8))(n:List UInt8)(w:World)(h:RV w A (l.map encStr))(hl:l.length<=9223372036854775807)(r:Bool)(hr:l.contains n=r) :
  Calls Tryz.prog 29 #[.slice A l.length c,.string ⟨n.toArray⟩] w fun e w'=>e=.returned (.bool r)/\w'=w:=by
 have IX:=qh (idxS A c l n w h hl r hr)
 clear h hr
 go_enter Tryz.func29,Tryz.ntmps29
 go_wp2_with (go_at_call 70;refine IX.out.mono ?_)
 rintro e w1 ⟨⟨k,rfl,hk⟩,rfl⟩
 go_wp2_with fail
 go_ret
 exact⟨by refine ret_boolB ?_;first | exact hk | simp,rfl⟩
theorem SR.moved(h:SR B S w p g s D V cv O co)(hB:B<=w.heap.size)(hd:DI S' w' g D')(hn:∀b,S' b->S b\/w.heap.size<=b)(m:Mods S w w'):SR B S' w' p g s D' V cv O co :=
 ⟨h.blk.mods m h.ps,hd,h.val.mods m h.vs,h.old.mods m h.os,h.ge,fun b hb=>(hn b hb).elim (h.sge b) (fun h1=>Nat.le_trans hB h1),fun hb=>(hn _ hb).elim h.ps (fun h1=>by have:=h.blk.lt;omega),
  fun b e hb=>(hn b hb).elim (h.vs b e) (fun h1=>by have:=(h.val.blk_in b e).2;omega),fun b e hb=>(hn b hb).elim (h.os b e) (fun h1=>by have:=(h.old.blk_lt b e).2;omega),h.bl,h.on⟩
theorem valueHard0(h:SR B S w p g s D V cv O co)(hh:s.has=false)(hd:s.down=false)(hl:s.value.length<=100000)(f:Value) :
  Calls Tryz.prog 75 #[.pointer (some ⟨p,0,none⟩),f] w fun e w'=>e=.returned (.tuple #[.agg #[.int .u64 0,.int .i64 0],.bool false])/\Below w.heap.size w w':=by
 have hal:Below w.heap.size w (w.alloc (.cells #[.int .u64 0,.int .i64 0] 25)):=(Below.refl _ _).alloc (Nat.le_refl _) _
 have HZ:=qh (Blk.new w #[.int .u64 0,.int .i64 0] 25)
 have hle:loadE s=8:=by unfold loadE;rw[if_neg (by rw[hd];simp),if_pos hh]
 have LD:=qh (slotLoad (h.below hal) hl)
 have HLE:=qh hle
 have HAL:=qh hal
 clear h hal hle hh hd
 go_enter Tryz.func75,Tryz.ntmps75
 go_wp2_with (go_at_call 141;refine LD.out.mono ?_)
 rintro e w1 ⟨A,c,rfl,ho,b1⟩
 rw[HLE.out]
 have hz:=HZ.out.kept b1
 have HB:=qh (belowTrans HAL.out b1)
 have HY:=qh hz
 clear LD ho b1 HZ HAL hz
 go_wp2_with (first
  | (refine wpList_load_row rfl 25 (.tmp 4) rfl w.heap.size rfl 25 #[.int .u64 0,.int .i64 0] (0,0) _ HY.out Tryz.underlying25 rfl hard_size ?_)
  | (refine wpList_store_row rfl 25 (.tmp 4) (.tmp 15) rfl w.heap.size #[.int .u64 0,.int .i64 0] rfl rfl _ _ HY.out hard_size rfl (by simp[Value.oneCell']) ?_))
 have Y:=HY.out.setRow #[.int .u64 0,.int .i64 0]
 have c0:=Y.cell 0 rfl
 have c1:=Y.cell 1 rfl
 refine bodyPost_ret (v:=.tuple #[.agg #[.int .u64 0,.int .i64 0],.bool false]) (by simp[results,Tryz.results75,go_sem,c0,c1]) rfl ⟨rfl,below_setRow HB.out (Nat.le_refl _) _⟩
abbrev shot0:Array Value:=#[.int .u64 0,.int .u64 0,.slice none 0 0,.slice none 0 0,.slice none 0 0]
theorem valueShot0(h:SR B S w p g s D V cv O co)(hh:s.has=false)(hd:s.down=false)(hl:s.value.length<=100000)(f:Value) :
  Calls Tryz.prog 77 #[.pointer (some ⟨p,0,none⟩),f] w fun e w'=>e=.returned (.tuple #[.agg shot0,.bool false])/\Below w.heap.size w w':=by
 have hal:Below w.heap.size w (w.alloc (.cells shot0 36)):=(Below.refl _ _).alloc (Nat.le_refl _) _
 have HZ:=qh (Blk.new w shot0 36)
 have hle:loadE s=8:=by unfold loadE;rw[if_neg (by rw[hd];simp),if_pos hh]
 have LD:=qh (slotLoad (h.below hal) hl)
 have HLE:=qh hle
 have HAL:=qh hal
 clear h hal hle hh hd
 unfold shot0 at *
 go_enter Tryz.func77,Tryz.ntmps77
 go_wp2_with (go_at_call 141;refine LD.out.mono ?_)
 rintro e w1 ⟨A,c,rfl,ho,b1⟩
 rw[HLE.out]
 have hz:=HZ.out.kept b1
 have HB:=qh (belowTrans HAL.out b1)
 have HY:=qh hz
 clear LD ho b1 HZ HAL hz
 go_wp2_with (first
  | (refine wpList_load_row rfl 36 (.tmp 4) rfl w.heap.size rfl 36 shot0 (0,0) _ HY.out Tryz.underlying36 rfl shot_size ?_)
  | (refine wpList_store_row rfl 36 (.tmp 4) (.tmp 15) rfl w.heap.size shot0 rfl rfl _ _ HY.out shot_size rfl (by simp[Value.oneCell']) ?_))
 have Y:=HY.out.setRow shot0
 have c0:=Y.cell 0 rfl
 have c1:=Y.cell 1 rfl
 have c2:=Y.cell 2 rfl
 have c3:=Y.cell 3 rfl
 have c4:=Y.cell 4 rfl
 refine bodyPost_ret (v:=.tuple #[.agg shot0,.bool false]) (by simp[results,Tryz.results77,go_sem,c0,c1,c2,c3,c4]) rfl ⟨rfl,below_setRow HB.out (Nat.le_refl _) _⟩
abbrev entry0:Array Value:=#[.int .u64 0,.int .u64 0,.int .i64 0,.int .i64 0,.slice none 0 0]
theorem entryNo{q sc rc:Nat}{l:Lg}{Z:List (Sg × Pl)}{Y:List (List UInt8 × Option Addr × Nat)}{SA RA:Option Addr}{cs:Array Value}(hs:Blk w q 72 cs)(h11:cs[11]?=some (.pointer (some ⟨p,0,none⟩)))(h:LX B S F w p g l D Z Y SA sc RA rc)(i:Nat)(hi:i<18446744073709551616)(hn:l.next<9223372036854775808)(hr:∀r∈l.recs,r.length<=100000)
  (k:Int) (hk:readW l i=([],k)) (hk0:k≠0) :
  Calls Tryz.prog 80 #[.pointer (some ⟨q,0,none⟩),.int .u64 (i:Int)] w fun e w'=>e=.returned (.tuple #[.agg entry0,.int .i64 k])/\Below w.heap.size w w':=by
 have hal:Below w.heap.size w (w.alloc (.cells entry0 44)):=(Below.refl _ _).alloc (Nat.le_refl _) _
 have HZ:=qh (Blk.new w entry0 44)
 have c11:=(hs.kept hal).cell 11 h11
 have RD:=walRead (h.below hal) i hi hn hr
 rw[hk] at RD
 have RDH:=qh RD
 have HAL:=qh hal
 have hkb:(k == 0)=false:=by simpa using hk0
 clear h hal RD hr hs h11
 unfold entry0 at *
 go_enter Tryz.func80,Tryz.ntmps80
 go_wp2_with (go_at_call 144;refine RDH.out.mono ?_)
 rintro e w1 ⟨A,c,n,rfl,rfl,ho,b1⟩
 have hz:=HZ.out.kept b1
 have HB:=qh (belowTrans HAL.out b1)
 have HY:=qh hz
 clear RDH ho b1 HZ HAL hz
 go_wp2_with (refine wpList_store_row rfl 44 (.tmp 4) (.tmp 19) rfl w.heap.size entry0 rfl rfl _ _ HY.out entry_size rfl (by simp[Value.oneCell']) ?_)
 have Y:=HY.out.setRow entry0
 have c0:=Y.cell 0 rfl
 have c1:=Y.cell 1 rfl
 have c2:=Y.cell 2 rfl
 have c3:=Y.cell 3 rfl
 have c4:=Y.cell 4 rfl
 refine bodyPost_ret (v:=.tuple #[.agg entry0,.int .i64 k]) (by simp[results,Tryz.results80,go_sem,c0,c1,c2,c3,c4]) rfl ⟨rfl,below_setRow HB.out (Nat.le_refl _) _⟩
end
end Go.Proofs.YtobdmlejabjmiaaGreatDoor
